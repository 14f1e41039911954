/- Lemmas for the walks (Obj3, Own2, Clr, Cpy). No condition. -/
import Derived.Test.YtnflkmjfhbfekaaG08
import Derived.Test.YtnflkmjfhbfekaaG05
import Derived.Shelf.Bits.Mul64
set_option linter.unusedSimpArgs false
set_option linter.unusedVariables false
set_option linter.unusedSectionVars false
set_option linter.unnecessarySimpa false
namespace Go.Proofs.Ytnflkmjfhbfekaa
open Go.RowKit

theorem typ_cases (typ : Int) : typ = 1 ∨ typ = 2 ∨ typ = 3 ∨ typ = 4 ∨ typ = 5 ∨ (typB typ = false ∧ obV typ = .nilIface) := by
  by_cases h : 1 ≤ typ ∧ typ ≤ 5
  · omega
  · right; right; right; right; right
    have h1 : typ ≠ 1 := by omega
    have h2 : typ ≠ 2 := by omega
    have h3 : typ ≠ 3 := by omega
    have h4 : typ ≠ 4 := by omega
    have h5 : typ ≠ 5 := by omega
    refine ⟨?_, by simp [obV, h1, h2, h3, h4, h5]⟩
    rw [Bool.eq_false_iff]; intro ht
    simp only [typB, Bool.and_eq_true, decide_eq_true_eq] at ht
    exact h ht
def begL (typ : Int) : List Int := if typ = 1 ∨ typ = 5 then [0] else []
def begE (typ : Int) : Int := if typB typ = true then 0 else 1
set_option maxRecDepth 100000 in
theorem objStart_any (typ : Int) (w : World) : Calls Try.prog 108 #[.int .i64 typ] w fun e w' => ∃ A c, e = .returned (.tuple #[.slice A (begL typ).length c, .int .i64 (begE typ)]) ∧ Own intEnc 1 3 w' w.heap.size (.slice A (begL typ).length c) (begL typ) ∧ Below w.heap.size w w' := by
  have hof := fun w => of_any typ w
  rcases typ_cases typ with rfl | rfl | rfl | rfl | rfl | ⟨hb, hv⟩
  · rw [show obV 1 = .iface 243 (.agg #[]) from rfl] at hof
    refine calls_T (S := []) [] Try.func108 rfl Try.ntmps108 (by simp) (Mem.nil _) ?_
    repeat' (first | ((first | with_reducible (first | apply TL_q | apply TD_q0 | apply TD_q1 | apply TD_q2 | apply TD_q3) | ((with_reducible (first | apply TD_q0y | apply TD_q1y)); exact rfl; exact rfl; (with_reducible exact rfl))); (first | ((with_reducible apply QS_makeInterface); exact rfl) | ((with_reducible apply QS_ifaceSome); exact rfl; exact rfl) | ((with_reducible apply QS_ifaceNil); exact rfl; exact rfl) | ((with_reducible apply QS_fieldZ); exact rfl; (first | ((repeat (first | with_reducible exact List.mem_cons_self | with_reducible apply List.mem_cons_of_mem)); done) | (repeat (first | exact List.Mem.head _ | apply List.Mem.tail)))) | ((with_reducible apply QS_load); exact rfl; exact Lds.zero _) | exact QS.auto); exact rfl) | (refine GO ?_) | (refine GOE ?_; (first | (rintro _ _ ⟨rfl, rfl⟩) | (rintro _ _ ⟨g, rfl, rfl⟩) | (rintro _ _ ⟨A', c', rfl, rfl⟩))) | ((refine GO2 ?_ ?_) <;> intro h <;> (try (repeat (first | with_reducible (replace h := of_decide_eq_true h) | with_reducible (replace h := of_decide_eq_false h) | with_reducible (replace h := bnt h) | with_reducible (replace h := bnf h) | with_reducible (replace h := Int.not_lt.mp h) | with_reducible (replace h := Int.not_le.mp h) | with_reducible (replace h := band_dec h) | with_reducible (replace h := band_decF h) | with_reducible (replace h := bor_dec h) | with_reducible (replace h := bor_decF h)))) <;> (try (exfalso; first | contradiction | omega))) | ((with_reducible (first | apply TD_e2z | apply TD_e3z | apply TL_e | apply TD_e2 | apply TD_e3)); ((with_reducible apply ES_callV (f := 133)); exact rfl; (intro w hw; exact hof w); exact rfl); (first | exact rfl | exact ⟨rfl, rfl, rfl⟩); (rintro _ _ ⟨rfl, rfl⟩); (try refine ⟨SUB, ?_⟩)) | ((with_reducible (first | apply TD_e2z | apply TD_e3z | apply TL_e | apply TD_e2 | apply TD_e3)); ((with_reducible apply ES_invokeX (f := 165) (r := .agg #[]) (X := Option Addr × Nat) (S1 := []) (fun x => .slice x.1 ([0] : List Int).length x.2) (fun x => [entOwn intEnc 1 3 x.1 x.2 [0]])); exact rfl; exact ⟨fun w => by kernel_rfl⟩; exact rfl; ((repeat (first | exact Pull.nil _ | (apply Pull.cons; (repeat (first | with_reducible exact Pick.here _ _ | with_reducible apply Pick.there)))))); (intro x; (try dsimp only); repeat (first | exact AppL.nil _ | apply AppL.cons)); (intro w hw; exact (singleStart_any w).mono fun e w' ⟨A, c, he, ho, hb⟩ => ⟨(A, c), he, Mem.ofOwn hb ho⟩); exact rfl); (first | exact rfl | exact ⟨rfl, rfl, rfl⟩); (rintro _ _ ⟨⟨A', c'⟩, rfl, rfl⟩); (try refine ⟨SUB, ?_⟩)) | fail)
    (refine At_ret Try.results108 rfl (fun w' hw => ?_))
    exact ⟨A', c', rfl, hw.ownOut rfl (by first | ((repeat (first | with_reducible exact List.mem_cons_self | with_reducible apply List.mem_cons_of_mem)); done) | (repeat (first | exact List.Mem.head _ | apply List.Mem.tail))), hw.below0 rfl⟩
  · rw [show obV 2 = .iface 246 (.agg #[]) from rfl] at hof
    refine calls_T (S := []) [] Try.func108 rfl Try.ntmps108 (by simp) (Mem.nil _) ?_
    repeat' (first | ((first | with_reducible (first | apply TL_q | apply TD_q0 | apply TD_q1 | apply TD_q2 | apply TD_q3) | ((with_reducible (first | apply TD_q0y | apply TD_q1y)); exact rfl; exact rfl; (with_reducible exact rfl))); (first | ((with_reducible apply QS_makeInterface); exact rfl) | ((with_reducible apply QS_ifaceSome); exact rfl; exact rfl) | ((with_reducible apply QS_ifaceNil); exact rfl; exact rfl) | ((with_reducible apply QS_fieldZ); exact rfl; (first | ((repeat (first | with_reducible exact List.mem_cons_self | with_reducible apply List.mem_cons_of_mem)); done) | (repeat (first | exact List.Mem.head _ | apply List.Mem.tail)))) | ((with_reducible apply QS_load); exact rfl; exact Lds.zero _) | exact QS.auto); exact rfl) | (refine GO ?_) | (refine GOE ?_; (first | (rintro _ _ ⟨rfl, rfl⟩) | (rintro _ _ ⟨g, rfl, rfl⟩) | (rintro _ _ ⟨A', c', rfl, rfl⟩))) | ((refine GO2 ?_ ?_) <;> intro h <;> (try (repeat (first | with_reducible (replace h := of_decide_eq_true h) | with_reducible (replace h := of_decide_eq_false h) | with_reducible (replace h := bnt h) | with_reducible (replace h := bnf h) | with_reducible (replace h := Int.not_lt.mp h) | with_reducible (replace h := Int.not_le.mp h) | with_reducible (replace h := band_dec h) | with_reducible (replace h := band_decF h) | with_reducible (replace h := bor_dec h) | with_reducible (replace h := bor_decF h)))) <;> (try (exfalso; first | contradiction | omega))) | ((with_reducible (first | apply TD_e2z | apply TD_e3z | apply TL_e | apply TD_e2 | apply TD_e3)); ((with_reducible apply ES_callV (f := 133)); exact rfl; (intro w hw; exact hof w); exact rfl); (first | exact rfl | exact ⟨rfl, rfl, rfl⟩); (rintro _ _ ⟨rfl, rfl⟩); (try refine ⟨SUB, ?_⟩)) | ((with_reducible (first | apply TD_e2z | apply TD_e3z | apply TL_e | apply TD_e2 | apply TD_e3)); ((with_reducible apply ES_invokeV (f := 168) (r := .agg #[])); exact rfl; exact ⟨fun w => by kernel_rfl⟩; exact rfl; (intro w hw; exact manyStart_any w); exact rfl); (first | exact rfl | exact ⟨rfl, rfl, rfl⟩); (rintro _ _ ⟨rfl, rfl⟩); (try refine ⟨SUB, ?_⟩)) | fail)
    (refine At_ret Try.results108 rfl (fun w' hw => ?_))
    exact ⟨none, 0, rfl, Own.nil _ _, hw.below0 rfl⟩
  · rw [show obV 3 = .iface 247 (.agg #[]) from rfl] at hof
    refine calls_T (S := []) [] Try.func108 rfl Try.ntmps108 (by simp) (Mem.nil _) ?_
    repeat' (first | ((first | with_reducible (first | apply TL_q | apply TD_q0 | apply TD_q1 | apply TD_q2 | apply TD_q3) | ((with_reducible (first | apply TD_q0y | apply TD_q1y)); exact rfl; exact rfl; (with_reducible exact rfl))); (first | ((with_reducible apply QS_makeInterface); exact rfl) | ((with_reducible apply QS_ifaceSome); exact rfl; exact rfl) | ((with_reducible apply QS_ifaceNil); exact rfl; exact rfl) | ((with_reducible apply QS_fieldZ); exact rfl; (first | ((repeat (first | with_reducible exact List.mem_cons_self | with_reducible apply List.mem_cons_of_mem)); done) | (repeat (first | exact List.Mem.head _ | apply List.Mem.tail)))) | ((with_reducible apply QS_load); exact rfl; exact Lds.zero _) | exact QS.auto); exact rfl) | (refine GO ?_) | (refine GOE ?_; (first | (rintro _ _ ⟨rfl, rfl⟩) | (rintro _ _ ⟨g, rfl, rfl⟩) | (rintro _ _ ⟨A', c', rfl, rfl⟩))) | ((refine GO2 ?_ ?_) <;> intro h <;> (try (repeat (first | with_reducible (replace h := of_decide_eq_true h) | with_reducible (replace h := of_decide_eq_false h) | with_reducible (replace h := bnt h) | with_reducible (replace h := bnf h) | with_reducible (replace h := Int.not_lt.mp h) | with_reducible (replace h := Int.not_le.mp h) | with_reducible (replace h := band_dec h) | with_reducible (replace h := band_decF h) | with_reducible (replace h := bor_dec h) | with_reducible (replace h := bor_decF h)))) <;> (try (exfalso; first | contradiction | omega))) | ((with_reducible (first | apply TD_e2z | apply TD_e3z | apply TL_e | apply TD_e2 | apply TD_e3)); ((with_reducible apply ES_callV (f := 133)); exact rfl; (intro w hw; exact hof w); exact rfl); (first | exact rfl | exact ⟨rfl, rfl, rfl⟩); (rintro _ _ ⟨rfl, rfl⟩); (try refine ⟨SUB, ?_⟩)) | ((with_reducible (first | apply TD_e2z | apply TD_e3z | apply TL_e | apply TD_e2 | apply TD_e3)); ((with_reducible apply ES_invokeV (f := 168) (r := .agg #[])); exact rfl; exact ⟨fun w => by kernel_rfl⟩; exact rfl; (intro w hw; exact manyStart_any w); exact rfl); (first | exact rfl | exact ⟨rfl, rfl, rfl⟩); (rintro _ _ ⟨rfl, rfl⟩); (try refine ⟨SUB, ?_⟩)) | fail)
    (refine At_ret Try.results108 rfl (fun w' hw => ?_))
    exact ⟨none, 0, rfl, Own.nil _ _, hw.below0 rfl⟩
  · rw [show obV 4 = .iface 248 (.agg #[]) from rfl] at hof
    refine calls_T (S := []) [] Try.func108 rfl Try.ntmps108 (by simp) (Mem.nil _) ?_
    repeat' (first | ((first | with_reducible (first | apply TL_q | apply TD_q0 | apply TD_q1 | apply TD_q2 | apply TD_q3) | ((with_reducible (first | apply TD_q0y | apply TD_q1y)); exact rfl; exact rfl; (with_reducible exact rfl))); (first | ((with_reducible apply QS_makeInterface); exact rfl) | ((with_reducible apply QS_ifaceSome); exact rfl; exact rfl) | ((with_reducible apply QS_ifaceNil); exact rfl; exact rfl) | ((with_reducible apply QS_fieldZ); exact rfl; (first | ((repeat (first | with_reducible exact List.mem_cons_self | with_reducible apply List.mem_cons_of_mem)); done) | (repeat (first | exact List.Mem.head _ | apply List.Mem.tail)))) | ((with_reducible apply QS_load); exact rfl; exact Lds.zero _) | exact QS.auto); exact rfl) | (refine GO ?_) | (refine GOE ?_; (first | (rintro _ _ ⟨rfl, rfl⟩) | (rintro _ _ ⟨g, rfl, rfl⟩) | (rintro _ _ ⟨A', c', rfl, rfl⟩))) | ((refine GO2 ?_ ?_) <;> intro h <;> (try (repeat (first | with_reducible (replace h := of_decide_eq_true h) | with_reducible (replace h := of_decide_eq_false h) | with_reducible (replace h := bnt h) | with_reducible (replace h := bnf h) | with_reducible (replace h := Int.not_lt.mp h) | with_reducible (replace h := Int.not_le.mp h) | with_reducible (replace h := band_dec h) | with_reducible (replace h := band_decF h) | with_reducible (replace h := bor_dec h) | with_reducible (replace h := bor_decF h)))) <;> (try (exfalso; first | contradiction | omega))) | ((with_reducible (first | apply TD_e2z | apply TD_e3z | apply TL_e | apply TD_e2 | apply TD_e3)); ((with_reducible apply ES_callV (f := 133)); exact rfl; (intro w hw; exact hof w); exact rfl); (first | exact rfl | exact ⟨rfl, rfl, rfl⟩); (rintro _ _ ⟨rfl, rfl⟩); (try refine ⟨SUB, ?_⟩)) | ((with_reducible (first | apply TD_e2z | apply TD_e3z | apply TL_e | apply TD_e2 | apply TD_e3)); ((with_reducible apply ES_invokeV (f := 168) (r := .agg #[])); exact rfl; exact ⟨fun w => by kernel_rfl⟩; exact rfl; (intro w hw; exact manyStart_any w); exact rfl); (first | exact rfl | exact ⟨rfl, rfl, rfl⟩); (rintro _ _ ⟨rfl, rfl⟩); (try refine ⟨SUB, ?_⟩)) | fail)
    (refine At_ret Try.results108 rfl (fun w' hw => ?_))
    exact ⟨none, 0, rfl, Own.nil _ _, hw.below0 rfl⟩
  · rw [show obV 5 = .iface 249 (.agg #[]) from rfl] at hof
    refine calls_T (S := []) [] Try.func108 rfl Try.ntmps108 (by simp) (Mem.nil _) ?_
    repeat' (first | ((first | with_reducible (first | apply TL_q | apply TD_q0 | apply TD_q1 | apply TD_q2 | apply TD_q3) | ((with_reducible (first | apply TD_q0y | apply TD_q1y)); exact rfl; exact rfl; (with_reducible exact rfl))); (first | ((with_reducible apply QS_makeInterface); exact rfl) | ((with_reducible apply QS_ifaceSome); exact rfl; exact rfl) | ((with_reducible apply QS_ifaceNil); exact rfl; exact rfl) | ((with_reducible apply QS_fieldZ); exact rfl; (first | ((repeat (first | with_reducible exact List.mem_cons_self | with_reducible apply List.mem_cons_of_mem)); done) | (repeat (first | exact List.Mem.head _ | apply List.Mem.tail)))) | ((with_reducible apply QS_load); exact rfl; exact Lds.zero _) | exact QS.auto); exact rfl) | (refine GO ?_) | (refine GOE ?_; (first | (rintro _ _ ⟨rfl, rfl⟩) | (rintro _ _ ⟨g, rfl, rfl⟩) | (rintro _ _ ⟨A', c', rfl, rfl⟩))) | ((refine GO2 ?_ ?_) <;> intro h <;> (try (repeat (first | with_reducible (replace h := of_decide_eq_true h) | with_reducible (replace h := of_decide_eq_false h) | with_reducible (replace h := bnt h) | with_reducible (replace h := bnf h) | with_reducible (replace h := Int.not_lt.mp h) | with_reducible (replace h := Int.not_le.mp h) | with_reducible (replace h := band_dec h) | with_reducible (replace h := band_decF h) | with_reducible (replace h := bor_dec h) | with_reducible (replace h := bor_decF h)))) <;> (try (exfalso; first | contradiction | omega))) | ((with_reducible (first | apply TD_e2z | apply TD_e3z | apply TL_e | apply TD_e2 | apply TD_e3)); ((with_reducible apply ES_callV (f := 133)); exact rfl; (intro w hw; exact hof w); exact rfl); (first | exact rfl | exact ⟨rfl, rfl, rfl⟩); (rintro _ _ ⟨rfl, rfl⟩); (try refine ⟨SUB, ?_⟩)) | ((with_reducible (first | apply TD_e2z | apply TD_e3z | apply TL_e | apply TD_e2 | apply TD_e3)); ((with_reducible apply ES_invokeX (f := 165) (r := .agg #[]) (X := Option Addr × Nat) (S1 := []) (fun x => .slice x.1 ([0] : List Int).length x.2) (fun x => [entOwn intEnc 1 3 x.1 x.2 [0]])); exact rfl; exact ⟨fun w => by kernel_rfl⟩; exact rfl; ((repeat (first | exact Pull.nil _ | (apply Pull.cons; (repeat (first | with_reducible exact Pick.here _ _ | with_reducible apply Pick.there)))))); (intro x; (try dsimp only); repeat (first | exact AppL.nil _ | apply AppL.cons)); (intro w hw; exact (singleStart_any w).mono fun e w' ⟨A, c, he, ho, hb⟩ => ⟨(A, c), he, Mem.ofOwn hb ho⟩); exact rfl); (first | exact rfl | exact ⟨rfl, rfl, rfl⟩); (rintro _ _ ⟨⟨A', c'⟩, rfl, rfl⟩); (try refine ⟨SUB, ?_⟩)) | fail)
    (refine At_ret Try.results108 rfl (fun w' hw => ?_))
    exact ⟨A', c', rfl, hw.ownOut rfl (by first | ((repeat (first | with_reducible exact List.mem_cons_self | with_reducible apply List.mem_cons_of_mem)); done) | (repeat (first | exact List.Mem.head _ | apply List.Mem.tail))), hw.below0 rfl⟩
  · rw [hv] at hof
    have hc : begE typ = 1 := by simp [begE, hb]
    have hl : begL typ = [] := by
      have h1 : ¬ (typ = 1 ∨ typ = 5) := by
        rintro (rfl | rfl) <;> cases hb
      simp [begL, h1]
    rw [hc, hl]
    refine calls_T (S := []) [] Try.func108 rfl Try.ntmps108 (by simp) (Mem.nil _) ?_
    repeat' (first | ((first | with_reducible (first | apply TL_q | apply TD_q0 | apply TD_q1 | apply TD_q2 | apply TD_q3) | ((with_reducible (first | apply TD_q0y | apply TD_q1y)); exact rfl; exact rfl; (with_reducible exact rfl))); (first | ((with_reducible apply QS_makeInterface); exact rfl) | ((with_reducible apply QS_ifaceSome); exact rfl; exact rfl) | ((with_reducible apply QS_ifaceNil); exact rfl; exact rfl) | ((with_reducible apply QS_fieldZ); exact rfl; (first | ((repeat (first | with_reducible exact List.mem_cons_self | with_reducible apply List.mem_cons_of_mem)); done) | (repeat (first | exact List.Mem.head _ | apply List.Mem.tail)))) | ((with_reducible apply QS_load); exact rfl; exact Lds.zero _) | exact QS.auto); exact rfl) | (refine GO ?_) | (refine GOE ?_; (first | (rintro _ _ ⟨rfl, rfl⟩) | (rintro _ _ ⟨g, rfl, rfl⟩) | (rintro _ _ ⟨A', c', rfl, rfl⟩))) | ((refine GO2 ?_ ?_) <;> intro h <;> (try (repeat (first | with_reducible (replace h := of_decide_eq_true h) | with_reducible (replace h := of_decide_eq_false h) | with_reducible (replace h := bnt h) | with_reducible (replace h := bnf h) | with_reducible (replace h := Int.not_lt.mp h) | with_reducible (replace h := Int.not_le.mp h) | with_reducible (replace h := band_dec h) | with_reducible (replace h := band_decF h) | with_reducible (replace h := bor_dec h) | with_reducible (replace h := bor_decF h)))) <;> (try (exfalso; first | contradiction | omega))) | ((with_reducible (first | apply TD_e2z | apply TD_e3z | apply TL_e | apply TD_e2 | apply TD_e3)); ((with_reducible apply ES_callV (f := 133)); exact rfl; (intro w hw; exact hof w); exact rfl); (first | exact rfl | exact ⟨rfl, rfl, rfl⟩); (rintro _ _ ⟨rfl, rfl⟩); (try refine ⟨SUB, ?_⟩)) | fail)
    (refine At_ret Try.results108 rfl (fun w' hw => ?_))
    exact ⟨none, 0, rfl, Own.nil _ _, hw.below0 rfl⟩
section
variable (A : Option Addr) (c : Nat) (s : List Int) (w : World) (hA : RdInt w A s) (hl : s.length ≤ 9223372036854775807)
include hA hl
set_option maxRecDepth 100000 in
theorem objCheck_any (typ : Int) : Calls Try.prog 148 #[.int .i64 typ, .slice A s.length c] w fun e w' => e = .returned (.int .i64 (chkS typ s)) ∧ Below w.heap.size w w' := by
  have hof := fun w => of_any typ w
  rcases typ_cases typ with rfl | rfl | rfl | rfl | rfl | ⟨hb, hv⟩
  · have hi := fun w hA => singleValid_any A c s w hA
    have hc : chkS 1 s = if 50 < s.length then 2 else if oneB s = true then 0 else 3 := rfl
    rw [hc]
    generalize oneB s = z at *
    rw [show obV 1 = .iface 243 (.agg #[]) from rfl] at hof
    refine calls_T (S := []) [] Try.func148 rfl Try.ntmps148 (by simp) (Mem.nil _) ?_
    repeat' (first | ((first | with_reducible (first | apply TL_q | apply TD_q0 | apply TD_q1 | apply TD_q2 | apply TD_q3) | ((with_reducible (first | apply TD_q0y | apply TD_q1y)); exact rfl; exact rfl; (with_reducible exact rfl))); (first | ((with_reducible apply QS_makeInterface); exact rfl) | ((with_reducible apply QS_ifaceSome); exact rfl; exact rfl) | ((with_reducible apply QS_ifaceNil); exact rfl; exact rfl) | ((with_reducible apply QS_fieldZ); exact rfl; (first | ((repeat (first | with_reducible exact List.mem_cons_self | with_reducible apply List.mem_cons_of_mem)); done) | (repeat (first | exact List.Mem.head _ | apply List.Mem.tail)))) | ((with_reducible apply QS_load); exact rfl; exact Lds.zero _) | exact QS.auto); exact rfl) | (refine GO ?_) | (refine GOE ?_; (first | (rintro _ _ ⟨rfl, rfl⟩) | (rintro _ _ ⟨g, rfl, rfl⟩) | (rintro _ _ ⟨A', c', rfl, rfl⟩))) | ((refine GO2 ?_ ?_) <;> intro h <;> (try (repeat (first | with_reducible (replace h := of_decide_eq_true h) | with_reducible (replace h := of_decide_eq_false h) | with_reducible (replace h := bnt h) | with_reducible (replace h := bnf h) | with_reducible (replace h := Int.not_lt.mp h) | with_reducible (replace h := Int.not_le.mp h) | with_reducible (replace h := band_dec h) | with_reducible (replace h := band_decF h) | with_reducible (replace h := bor_dec h) | with_reducible (replace h := bor_decF h)))) <;> (try (exfalso; first | contradiction | omega))) | ((with_reducible (first | apply TD_e2z | apply TD_e3z | apply TL_e | apply TD_e2 | apply TD_e3)); ((with_reducible apply ES_callV (f := 133)); exact rfl; (intro w hw; exact hof w); exact rfl); (first | exact rfl | exact ⟨rfl, rfl, rfl⟩); (rintro _ _ ⟨rfl, rfl⟩); (try refine ⟨SUB, ?_⟩)) | ((with_reducible (first | apply TD_e2z | apply TD_e3z | apply TL_e | apply TD_e2 | apply TD_e3)); ((with_reducible apply ES_invokeV (f := 166) (r := .agg #[])); exact rfl; exact ⟨fun w => by kernel_rfl⟩; exact rfl; (intro w hw; exact hi w (hw.rd rfl hA)); exact rfl); (first | exact rfl | exact ⟨rfl, rfl, rfl⟩); (rintro _ _ ⟨rfl, rfl⟩); (try refine ⟨SUB, ?_⟩)) | fail)
    all_goals (refine At_ret Try.results148 rfl (fun w' hw => ?_))
    all_goals refine ⟨?_, hw.below0 rfl⟩
    · rw [if_pos (by omega)]; rfl
    · rw [if_neg (by omega), if_neg (by simp [‹z = false›])]; rfl
    · rw [if_neg (by omega), if_pos ‹z = true›]; rfl
  · have hi := fun w hA => manyValid_any A c s w hA hl
    have hc : chkS 2 s = if 50 < s.length then 2 else if s.all okI = true then 0 else 3 := rfl
    rw [hc]
    generalize s.all okI = z at *
    rw [show obV 2 = .iface 246 (.agg #[]) from rfl] at hof
    refine calls_T (S := []) [] Try.func148 rfl Try.ntmps148 (by simp) (Mem.nil _) ?_
    repeat' (first | ((first | with_reducible (first | apply TL_q | apply TD_q0 | apply TD_q1 | apply TD_q2 | apply TD_q3) | ((with_reducible (first | apply TD_q0y | apply TD_q1y)); exact rfl; exact rfl; (with_reducible exact rfl))); (first | ((with_reducible apply QS_makeInterface); exact rfl) | ((with_reducible apply QS_ifaceSome); exact rfl; exact rfl) | ((with_reducible apply QS_ifaceNil); exact rfl; exact rfl) | ((with_reducible apply QS_fieldZ); exact rfl; (first | ((repeat (first | with_reducible exact List.mem_cons_self | with_reducible apply List.mem_cons_of_mem)); done) | (repeat (first | exact List.Mem.head _ | apply List.Mem.tail)))) | ((with_reducible apply QS_load); exact rfl; exact Lds.zero _) | exact QS.auto); exact rfl) | (refine GO ?_) | (refine GOE ?_; (first | (rintro _ _ ⟨rfl, rfl⟩) | (rintro _ _ ⟨g, rfl, rfl⟩) | (rintro _ _ ⟨A', c', rfl, rfl⟩))) | ((refine GO2 ?_ ?_) <;> intro h <;> (try (repeat (first | with_reducible (replace h := of_decide_eq_true h) | with_reducible (replace h := of_decide_eq_false h) | with_reducible (replace h := bnt h) | with_reducible (replace h := bnf h) | with_reducible (replace h := Int.not_lt.mp h) | with_reducible (replace h := Int.not_le.mp h) | with_reducible (replace h := band_dec h) | with_reducible (replace h := band_decF h) | with_reducible (replace h := bor_dec h) | with_reducible (replace h := bor_decF h)))) <;> (try (exfalso; first | contradiction | omega))) | ((with_reducible (first | apply TD_e2z | apply TD_e3z | apply TL_e | apply TD_e2 | apply TD_e3)); ((with_reducible apply ES_callV (f := 133)); exact rfl; (intro w hw; exact hof w); exact rfl); (first | exact rfl | exact ⟨rfl, rfl, rfl⟩); (rintro _ _ ⟨rfl, rfl⟩); (try refine ⟨SUB, ?_⟩)) | ((with_reducible (first | apply TD_e2z | apply TD_e3z | apply TL_e | apply TD_e2 | apply TD_e3)); ((with_reducible apply ES_invokeV (f := 169) (r := .agg #[])); exact rfl; exact ⟨fun w => by kernel_rfl⟩; exact rfl; (intro w hw; exact hi w (hw.rd rfl hA)); exact rfl); (first | exact rfl | exact ⟨rfl, rfl, rfl⟩); (rintro _ _ ⟨rfl, rfl⟩); (try refine ⟨SUB, ?_⟩)) | fail)
    all_goals (refine At_ret Try.results148 rfl (fun w' hw => ?_))
    all_goals refine ⟨?_, hw.below0 rfl⟩
    · rw [if_pos (by omega)]; rfl
    · rw [if_neg (by omega), if_neg (by simp [‹z = false›])]; rfl
    · rw [if_neg (by omega), if_pos ‹z = true›]; rfl
  · have hi := fun w hA => manyValid_any A c s w hA hl
    have hc : chkS 3 s = if 50 < s.length then 2 else if s.all okI = true then 0 else 3 := rfl
    rw [hc]
    generalize s.all okI = z at *
    rw [show obV 3 = .iface 247 (.agg #[]) from rfl] at hof
    refine calls_T (S := []) [] Try.func148 rfl Try.ntmps148 (by simp) (Mem.nil _) ?_
    repeat' (first | ((first | with_reducible (first | apply TL_q | apply TD_q0 | apply TD_q1 | apply TD_q2 | apply TD_q3) | ((with_reducible (first | apply TD_q0y | apply TD_q1y)); exact rfl; exact rfl; (with_reducible exact rfl))); (first | ((with_reducible apply QS_makeInterface); exact rfl) | ((with_reducible apply QS_ifaceSome); exact rfl; exact rfl) | ((with_reducible apply QS_ifaceNil); exact rfl; exact rfl) | ((with_reducible apply QS_fieldZ); exact rfl; (first | ((repeat (first | with_reducible exact List.mem_cons_self | with_reducible apply List.mem_cons_of_mem)); done) | (repeat (first | exact List.Mem.head _ | apply List.Mem.tail)))) | ((with_reducible apply QS_load); exact rfl; exact Lds.zero _) | exact QS.auto); exact rfl) | (refine GO ?_) | (refine GOE ?_; (first | (rintro _ _ ⟨rfl, rfl⟩) | (rintro _ _ ⟨g, rfl, rfl⟩) | (rintro _ _ ⟨A', c', rfl, rfl⟩))) | ((refine GO2 ?_ ?_) <;> intro h <;> (try (repeat (first | with_reducible (replace h := of_decide_eq_true h) | with_reducible (replace h := of_decide_eq_false h) | with_reducible (replace h := bnt h) | with_reducible (replace h := bnf h) | with_reducible (replace h := Int.not_lt.mp h) | with_reducible (replace h := Int.not_le.mp h) | with_reducible (replace h := band_dec h) | with_reducible (replace h := band_decF h) | with_reducible (replace h := bor_dec h) | with_reducible (replace h := bor_decF h)))) <;> (try (exfalso; first | contradiction | omega))) | ((with_reducible (first | apply TD_e2z | apply TD_e3z | apply TL_e | apply TD_e2 | apply TD_e3)); ((with_reducible apply ES_callV (f := 133)); exact rfl; (intro w hw; exact hof w); exact rfl); (first | exact rfl | exact ⟨rfl, rfl, rfl⟩); (rintro _ _ ⟨rfl, rfl⟩); (try refine ⟨SUB, ?_⟩)) | ((with_reducible (first | apply TD_e2z | apply TD_e3z | apply TL_e | apply TD_e2 | apply TD_e3)); ((with_reducible apply ES_invokeV (f := 169) (r := .agg #[])); exact rfl; exact ⟨fun w => by kernel_rfl⟩; exact rfl; (intro w hw; exact hi w (hw.rd rfl hA)); exact rfl); (first | exact rfl | exact ⟨rfl, rfl, rfl⟩); (rintro _ _ ⟨rfl, rfl⟩); (try refine ⟨SUB, ?_⟩)) | fail)
    all_goals (refine At_ret Try.results148 rfl (fun w' hw => ?_))
    all_goals refine ⟨?_, hw.below0 rfl⟩
    · rw [if_pos (by omega)]; rfl
    · rw [if_neg (by omega), if_neg (by simp [‹z = false›])]; rfl
    · rw [if_neg (by omega), if_pos ‹z = true›]; rfl
  · have hi := fun w hA => setValid_any A c s w hA hl
    have hc : chkS 4 s = if 50 < s.length then 2 else if (ascB s && s.all okI) = true then 0 else 3 := rfl
    rw [hc]
    generalize (ascB s && s.all okI) = z at *
    rw [show obV 4 = .iface 248 (.agg #[]) from rfl] at hof
    refine calls_T (S := []) [] Try.func148 rfl Try.ntmps148 (by simp) (Mem.nil _) ?_
    repeat' (first | ((first | with_reducible (first | apply TL_q | apply TD_q0 | apply TD_q1 | apply TD_q2 | apply TD_q3) | ((with_reducible (first | apply TD_q0y | apply TD_q1y)); exact rfl; exact rfl; (with_reducible exact rfl))); (first | ((with_reducible apply QS_makeInterface); exact rfl) | ((with_reducible apply QS_ifaceSome); exact rfl; exact rfl) | ((with_reducible apply QS_ifaceNil); exact rfl; exact rfl) | ((with_reducible apply QS_fieldZ); exact rfl; (first | ((repeat (first | with_reducible exact List.mem_cons_self | with_reducible apply List.mem_cons_of_mem)); done) | (repeat (first | exact List.Mem.head _ | apply List.Mem.tail)))) | ((with_reducible apply QS_load); exact rfl; exact Lds.zero _) | exact QS.auto); exact rfl) | (refine GO ?_) | (refine GOE ?_; (first | (rintro _ _ ⟨rfl, rfl⟩) | (rintro _ _ ⟨g, rfl, rfl⟩) | (rintro _ _ ⟨A', c', rfl, rfl⟩))) | ((refine GO2 ?_ ?_) <;> intro h <;> (try (repeat (first | with_reducible (replace h := of_decide_eq_true h) | with_reducible (replace h := of_decide_eq_false h) | with_reducible (replace h := bnt h) | with_reducible (replace h := bnf h) | with_reducible (replace h := Int.not_lt.mp h) | with_reducible (replace h := Int.not_le.mp h) | with_reducible (replace h := band_dec h) | with_reducible (replace h := band_decF h) | with_reducible (replace h := bor_dec h) | with_reducible (replace h := bor_decF h)))) <;> (try (exfalso; first | contradiction | omega))) | ((with_reducible (first | apply TD_e2z | apply TD_e3z | apply TL_e | apply TD_e2 | apply TD_e3)); ((with_reducible apply ES_callV (f := 133)); exact rfl; (intro w hw; exact hof w); exact rfl); (first | exact rfl | exact ⟨rfl, rfl, rfl⟩); (rintro _ _ ⟨rfl, rfl⟩); (try refine ⟨SUB, ?_⟩)) | ((with_reducible (first | apply TD_e2z | apply TD_e3z | apply TL_e | apply TD_e2 | apply TD_e3)); ((with_reducible apply ES_invokeV (f := 175) (r := .agg #[])); exact rfl; exact ⟨fun w => by kernel_rfl⟩; exact rfl; (intro w hw; exact hi w (hw.rd rfl hA)); exact rfl); (first | exact rfl | exact ⟨rfl, rfl, rfl⟩); (rintro _ _ ⟨rfl, rfl⟩); (try refine ⟨SUB, ?_⟩)) | fail)
    all_goals (refine At_ret Try.results148 rfl (fun w' hw => ?_))
    all_goals refine ⟨?_, hw.below0 rfl⟩
    · rw [if_pos (by omega)]; rfl
    · rw [if_neg (by omega), if_neg (by simp [‹z = false›])]; rfl
    · rw [if_neg (by omega), if_pos ‹z = true›]; rfl
  · have hi := fun w hA => singleValid_any A c s w hA
    have hc : chkS 5 s = if 50 < s.length then 2 else if oneB s = true then 0 else 3 := rfl
    rw [hc]
    generalize oneB s = z at *
    rw [show obV 5 = .iface 249 (.agg #[]) from rfl] at hof
    refine calls_T (S := []) [] Try.func148 rfl Try.ntmps148 (by simp) (Mem.nil _) ?_
    repeat' (first | ((first | with_reducible (first | apply TL_q | apply TD_q0 | apply TD_q1 | apply TD_q2 | apply TD_q3) | ((with_reducible (first | apply TD_q0y | apply TD_q1y)); exact rfl; exact rfl; (with_reducible exact rfl))); (first | ((with_reducible apply QS_makeInterface); exact rfl) | ((with_reducible apply QS_ifaceSome); exact rfl; exact rfl) | ((with_reducible apply QS_ifaceNil); exact rfl; exact rfl) | ((with_reducible apply QS_fieldZ); exact rfl; (first | ((repeat (first | with_reducible exact List.mem_cons_self | with_reducible apply List.mem_cons_of_mem)); done) | (repeat (first | exact List.Mem.head _ | apply List.Mem.tail)))) | ((with_reducible apply QS_load); exact rfl; exact Lds.zero _) | exact QS.auto); exact rfl) | (refine GO ?_) | (refine GOE ?_; (first | (rintro _ _ ⟨rfl, rfl⟩) | (rintro _ _ ⟨g, rfl, rfl⟩) | (rintro _ _ ⟨A', c', rfl, rfl⟩))) | ((refine GO2 ?_ ?_) <;> intro h <;> (try (repeat (first | with_reducible (replace h := of_decide_eq_true h) | with_reducible (replace h := of_decide_eq_false h) | with_reducible (replace h := bnt h) | with_reducible (replace h := bnf h) | with_reducible (replace h := Int.not_lt.mp h) | with_reducible (replace h := Int.not_le.mp h) | with_reducible (replace h := band_dec h) | with_reducible (replace h := band_decF h) | with_reducible (replace h := bor_dec h) | with_reducible (replace h := bor_decF h)))) <;> (try (exfalso; first | contradiction | omega))) | ((with_reducible (first | apply TD_e2z | apply TD_e3z | apply TL_e | apply TD_e2 | apply TD_e3)); ((with_reducible apply ES_callV (f := 133)); exact rfl; (intro w hw; exact hof w); exact rfl); (first | exact rfl | exact ⟨rfl, rfl, rfl⟩); (rintro _ _ ⟨rfl, rfl⟩); (try refine ⟨SUB, ?_⟩)) | ((with_reducible (first | apply TD_e2z | apply TD_e3z | apply TL_e | apply TD_e2 | apply TD_e3)); ((with_reducible apply ES_invokeV (f := 166) (r := .agg #[])); exact rfl; exact ⟨fun w => by kernel_rfl⟩; exact rfl; (intro w hw; exact hi w (hw.rd rfl hA)); exact rfl); (first | exact rfl | exact ⟨rfl, rfl, rfl⟩); (rintro _ _ ⟨rfl, rfl⟩); (try refine ⟨SUB, ?_⟩)) | fail)
    all_goals (refine At_ret Try.results148 rfl (fun w' hw => ?_))
    all_goals refine ⟨?_, hw.below0 rfl⟩
    · rw [if_pos (by omega)]; rfl
    · rw [if_neg (by omega), if_neg (by simp [‹z = false›])]; rfl
    · rw [if_neg (by omega), if_pos ‹z = true›]; rfl
  · rw [hv] at hof
    have hc : chkS typ s = 1 := by simp [chkS, hb]
    rw [hc]
    refine calls_T (S := []) [] Try.func148 rfl Try.ntmps148 (by simp) (Mem.nil _) ?_
    repeat' (first | ((first | with_reducible (first | apply TL_q | apply TD_q0 | apply TD_q1 | apply TD_q2 | apply TD_q3) | ((with_reducible (first | apply TD_q0y | apply TD_q1y)); exact rfl; exact rfl; (with_reducible exact rfl))); (first | ((with_reducible apply QS_makeInterface); exact rfl) | ((with_reducible apply QS_ifaceSome); exact rfl; exact rfl) | ((with_reducible apply QS_ifaceNil); exact rfl; exact rfl) | ((with_reducible apply QS_fieldZ); exact rfl; (first | ((repeat (first | with_reducible exact List.mem_cons_self | with_reducible apply List.mem_cons_of_mem)); done) | (repeat (first | exact List.Mem.head _ | apply List.Mem.tail)))) | ((with_reducible apply QS_load); exact rfl; exact Lds.zero _) | exact QS.auto); exact rfl) | (refine GO ?_) | (refine GOE ?_; (first | (rintro _ _ ⟨rfl, rfl⟩) | (rintro _ _ ⟨g, rfl, rfl⟩) | (rintro _ _ ⟨A', c', rfl, rfl⟩))) | ((refine GO2 ?_ ?_) <;> intro h <;> (try (repeat (first | with_reducible (replace h := of_decide_eq_true h) | with_reducible (replace h := of_decide_eq_false h) | with_reducible (replace h := bnt h) | with_reducible (replace h := bnf h) | with_reducible (replace h := Int.not_lt.mp h) | with_reducible (replace h := Int.not_le.mp h) | with_reducible (replace h := band_dec h) | with_reducible (replace h := band_decF h) | with_reducible (replace h := bor_dec h) | with_reducible (replace h := bor_decF h)))) <;> (try (exfalso; first | contradiction | omega))) | ((with_reducible (first | apply TD_e2z | apply TD_e3z | apply TL_e | apply TD_e2 | apply TD_e3)); ((with_reducible apply ES_callV (f := 133)); exact rfl; (intro w hw; exact hof w); exact rfl); (first | exact rfl | exact ⟨rfl, rfl, rfl⟩); (rintro _ _ ⟨rfl, rfl⟩); (try refine ⟨SUB, ?_⟩)) | fail)
    (refine At_ret Try.results148 rfl (fun w' hw => ?_))
    exact ⟨rfl, hw.below0 rfl⟩
end
end Go.Proofs.Ytnflkmjfhbfekaa

namespace Go.Proofs.Ytnflkmjfhbfekaa
open Go.RowKit

theorem flat_div {α : Type} {enc : α → List Value} {M : Nat} (hM : ∀ x, (enc x).length = M) (h0 : 0 < M) : ∀ (l : List α) (j : Nat), (l.flatMap enc)[j]? = (l[j / M]?).bind fun x => (enc x)[j % M]?
  | [], j => by simp
  | x :: l, j => by
    rw [List.flatMap_cons]
    rcases Nat.lt_or_ge j M with h | h
    · rw [List.getElem?_append_left (by rw [hM]; exact h), Nat.div_eq_of_lt h, Nat.mod_eq_of_lt h]
      simp
    · rw [List.getElem?_append_right (by rw [hM]; exact h), hM, flat_div hM h0 l (j - M), Nat.div_eq_sub_div h0 h, ← Nat.mod_eq_sub_mod h]
      simp
theorem Lies.rd {C : Ctx} {S : List Ent} {α : Type} {enc : α → List Value} {M : Nat} {l : List α} {A : Option Addr} {c : Nat} (hR : RdE enc M C.w0 A l) (hF : C.F = []) (hM : ∀ x, (enc x).length = M) (h0 : 0 < M) (hA : A = none → c = 0) : Lies C S (.slice A l.length c) l.length (l.flatMap enc) := by
  cases A with
  | none =>
    have hl : l = [] := by
      cases l with
      | nil => rfl
      | cons x l => obtain ⟨b, o, h, _⟩ := hR.open (by simp); cases h
    subst hl
    exact .inl ⟨rfl, rfl, by rw [hA rfl]; rfl⟩
  | some ad =>
    refine .inr ⟨ad, c, rfl, fun w hw j u hu => ?_⟩
    rw [flat_div hM h0, Option.bind_eq_some_iff] at hu
    obtain ⟨x, hx, hu⟩ := hu
    obtain ⟨b, o, he, hb, hc⟩ := hR (j / M) x hx
    cases he
    have := hc (j % M) u hu
    rw [add_mk]
    refine hw.old hb (by simp [hF]) ?_
    rw [← this]
    congr 2
    have := Nat.div_add_mod j M
    rw [Nat.mul_comm] at this
    omega
theorem any_take_succ {p : Nat → Bool} {l : List Nat} {k : Nat} (hk : k < l.length) : (l.take (k + 1)).any p = ((l.take k).any p || p l[k]) := by
  rw [List.take_succ_eq_append_getElem hk, List.any_append]; simp
theorem contains_take_succ {l : List Nat} {k : Nat} (hk : k < l.length) (i : Nat) : (l.take (k + 1)).contains i = ((l.take k).contains i || decide (l[k] = i)) := by
  rw [List.take_succ_eq_append_getElem hk, List.contains_eq_mem, List.contains_eq_mem, ← Bool.decide_or]
  exact decide_eq_decide.2 (by rw [List.mem_append, List.mem_singleton]; exact ⟨fun h => h.imp id Eq.symm, fun h => h.imp id Eq.symm⟩)
theorem Mem.ownSome {C : Ctx} {S : List Ent} {α : Type} {enc : α → List Value} {M e c : Nat} {A : Option Addr} {ls : List α} {w : World} (hw : Mem C w S) (hm : entOwn enc M e A c ls ∈ S) (hl : 0 < ls.length) : A ≠ Option.none := by
  have ho : Own enc M e w 0 (.slice A ls.length c) ls := (hw.holds _ hm).1
  rcases ho.2 with ⟨_, h0⟩ | ⟨g, cap, cur, hv, _⟩
  · omega
  · simp only [Value.slice.injEq] at hv
    rw [hv.1]; simp
/-- a cell that was there -/
theorem Lds.old {P : Program} {C : Ctx} {S : List Ent} {s b k : Nat} {v : Value} [OneCell P s] (hb : b < C.w0.heap.size) (hF : b ∉ C.F) (hc : C.w0.cell? ⟨b, k, none⟩ = some v) : Lds P C S s ⟨b, k, none⟩ v :=
  Lds.one fun w hw => hw.old hb hF hc
end Go.Proofs.Ytnflkmjfhbfekaa

namespace Go.Proofs.Ytnflkmjfhbfekaa
open Go.RowKit

theorem flat_take {α : Type} {enc : α → List Value} {M : Nat} (hM : ∀ x, (enc x).length = M) : ∀ (ls : List α) (i : Nat), i ≤ ls.length → (ls.take i).flatMap enc = (ls.flatMap enc).take (i * M)
  | ls, 0, _ => by simp
  | [], i + 1, h => by simp at h
  | x :: ls, i + 1, h => by
    have ih := flat_take hM ls i (by simpa using h)
    rw [List.take_succ_cons, List.flatMap_cons, List.flatMap_cons, ih, show (i + 1) * M = M + i * M by rw [Nat.succ_mul]; omega]
    rw [List.take_append, List.take_of_length_le (l := enc x) (by rw [hM]; omega), hM, show M + i * M - M = i * M by omega]
theorem zeroCells_mem {zs : Array Value} {n : Nat} {u : Value} (h : u ∈ (Builtin.zeroCells zs n).toList) : u ∈ zs.toList := by
  unfold Builtin.zeroCells at h
  simp only [Array.toList_map, List.mem_map] at h
  obtain ⟨j, hj, rfl⟩ := h
  by_cases h0 : zs.size = 0
  · simp [h0] at hj
  · have hlt : j % zs.size < zs.size := Nat.mod_lt _ (by omega)
    rw [getElem!_pos zs (j % zs.size) hlt]
    simp
section
variable {P : Program} {C : Ctx} {E : Slots} {S S' : List Ent} {ty t g c M e i p n k bytes : Nat} {ps : String} {af : Array Edge} {g0 : Option (Nat × Bool)} {x : Operand} {z : Value} {α : Type} {enc : α → List Value} {ls : List α}
theorem ES_none {op : Op} (Φ : List Ent → Prop)
    (hr : ∀ a w, Env C.n a E → Mem C w S → ∃ v w' S', (execOp a.eval ⟨none, op, ty, ps, af, g0⟩).run P w = .ok (.value v) w' ∧ Mem C w' S' ∧ Φ S') : ES P C E S ⟨none, op, ty, ps, af, g0⟩ (fun E' S' => Φ S' ∧ E' = E) := by
  intro a w K Q ha hw hK
  obtain ⟨v, w', S', h1, h2, h3⟩ := hr a w ha hw
  unfold Oper.wp
  rw [h1]
  exact hK _ _ _ _ ⟨h3, rfl⟩ (ha.putNone v) h2
theorem ES_clearTail [hs : SliceOf P t e M] [hi : InfoOf P e z M bytes] [hz : ZeroOf P e z] (hx : evo E x = some (.slice (some ⟨g, p, none⟩) n k)) (hu : Upd S (entOwn enc M e (some ⟨g, 0, none⟩) c ls) (entOwn enc M e (some ⟨g, 0, none⟩) c (ls.take i)) S')
    (hM : ∀ x, (enc x).length = M) (hn : n = ls.length - i) (hil : i ≤ ls.length) (hp : i < ls.length → p = i * M) (h1 : z.cells.toList.all (·.oneCell') = true) :
    ES P C E S ⟨none, .call ⟨.builtin .clear, #[x], #[t]⟩, ty, ps, af, g0⟩ (fun E' T => E' = E ∧ T = S') := by
  refine (ES_none (fun T => T = S') (fun a w ha hw => ?_)).weak (by rintro _ _ ⟨rfl, rfl⟩; exact ⟨rfl, rfl⟩)
  have ho : Own enc M e w 0 (.slice (some ⟨g, 0, none⟩) ls.length c) ls := (hw.holds _ hu.mem).1
  obtain ⟨g', cap, cur, hv, hbb, hg, hnc, hcm, hcs, htake⟩ := ho.2.resolve_left (by simp)
  simp only [Value.slice.injEq, Option.some.injEq, Addr.mk.injEq, and_true, true_and] at hv
  obtain ⟨rfl, rfl⟩ := hv
  have run : ∀ w', (Builtin.clear_ #[t] ty #[.slice (some ⟨g, p, none⟩) n k]).run P w = .ok (.tuple #[]) w' → (execOp a.eval ⟨none, .call ⟨.builtin .clear, #[x], #[t]⟩, ty, ps, af, g0⟩).run P w = .ok (.value (.tuple #[])) w' := by
    intro w' h
    simp [execOp, resolve, invoke, builtin, ha.evo hx, h]
  by_cases h0 : n = 0
  · subst h0
    have hi' : i = ls.length := by omega
    refine ⟨.tuple #[], w, S', run _ (by simp [Builtin.clear_, run_underlying hs.und]), ?_, rfl⟩
    refine hw.upd hu (Keeps.refl [] w) (by simp) (fun j hj => ?_) ?_
    · have hj' : some g = some j := hj
      cases hj'
      exact ⟨(Array.getElem?_eq_some_iff.1 hg).1, .inl rfl⟩
    · subst hi'
      rw [List.take_length]
      exact ho
  · have hlt : i < ls.length := by omega
    obtain rfl := hp hlt
    have hzs : (Builtin.zeroCells z.cells n).size = n * M := by simp [Builtin.zeroCells, hi.zsize]
    have hiM : i * M + n * M = ls.length * M := by rw [← Nat.add_mul]; congr 1; omega
    have hnM : ls.length * M ≤ c * M := Nat.mul_le_mul_right _ hnc
    have hfit : i * M + (Builtin.zeroCells z.cells n).toList.length ≤ cur.size := by rw [Array.length_toList, hzs, hcs]; omega
    have hst := run_storeCells_at P g (i * M) e (Builtin.zeroCells z.cells n).toList 0 cur w hg (by simpa using hfit) (fun u hu => List.all_eq_true.1 h1 u (zeroCells_mem hu))
    simp only [Nat.add_zero] at hst
    have hcl : (cur.toList.take (i * M) ++ (Builtin.zeroCells z.cells n).toList ++ cur.toList.drop (i * M + (Builtin.zeroCells z.cells n).toList.length)).length = cur.size := by
      simp only [List.length_append, List.length_take, List.length_drop, Array.length_toList] at hfit ⊢; omega
    obtain ⟨m, hm⟩ : ∃ m, n = m + 1 := ⟨n - 1, by omega⟩
    refine ⟨.tuple #[], w.setRow g (cur.toList.take (i * M) ++ (Builtin.zeroCells z.cells n).toList ++ cur.toList.drop (i * M + (Builtin.zeroCells z.cells n).toList.length)).toArray, S', run _ ?_, ?_, rfl⟩
    · subst hm
      simp only [Builtin.clear_, List.getElem?_toArray, List.getElem?_cons_zero, run_underlying hs.und, Sem.run_bind, Result.andThen_ok, hz.run w, hst, Sem.run_pure]
    · refine hw.upd hu (Keeps.setRow w g _) (by simp [entOwn, Value.ownBlock]) (fun j hj => ?_) ?_
      · have hj' : some g = some j := hj
        cases hj'
        exact ⟨by simpa using (Array.getElem?_eq_some_iff.1 hg).1, .inl rfl⟩
      · have hli : (ls.take i).length = i := by rw [List.length_take]; omega
        show Own enc M e _ 0 (.slice (some ⟨g, 0, none⟩) (ls.take i).length c) (ls.take i)
        refine ⟨flat_len hM _, .inr ⟨g, c, _, rfl, Nat.zero_le _, setRow_heap w g cur _ e _ hg, by omega, hcm, ?_, ?_⟩⟩
        · simp only [List.size_toArray]; rw [hcl, hcs]
        · rw [flat_take hM ls i hil, ← htake, hli]
          have l1 : (cur.toList.take (i * M)).length = i * M := by rw [List.length_take, Array.length_toList, hcs]; omega
          rw [List.take_take, Nat.min_eq_left (by omega), List.append_assoc, List.take_append, List.take_of_length_le (by rw [l1]; omega), l1, Nat.sub_self, List.take_zero, List.append_nil]
end
end Go.Proofs.Ytnflkmjfhbfekaa

namespace Go.Proofs.Ytnflkmjfhbfekaa
open Go.RowKit
section
variable {P : Program} {C : Ctx} {E : Slots} {S S' : List Ent} {ty t t2 d g c e p n k sn sk : Nat} {ps : String} {af : Array Edge} {g0 : Option (Nat × Bool)} {x y : Operand} {α : Type} {enc : α → List Value} {ls xs : List α} {ad : Addr}
theorem ES_copy {z : Value} {bytes : Nat} [hs : SliceOf P t e 1] [hi : InfoOf P e z 1 bytes] (hx : evo E x = some (.slice (some ⟨g, p, none⟩) n k)) (hy : evo E y = some (.slice (some ad) sn sk))
    (hl : ∀ w, Mem C w S → ∀ j v, (xs.flatMap enc)[j]? = some v → w.cell? (ad.add j) = some v)
    (hn : xs.length = min sn n) (hp : p + xs.length ≤ ls.length)
    (hu : Upd S (entOwn enc 1 e (some ⟨g, 0, none⟩) c ls) (entOwn enc 1 e (some ⟨g, 0, none⟩) c (ls.take p ++ xs ++ ls.drop (p + xs.length))) S')
    (hM : ∀ x, (enc x).length = 1) (h1 : ∀ x, (enc x).all (·.oneCell') = true) (hd : Nat.ble (d + 1) C.n = true) :
    ES P C E S ⟨some d, .call ⟨.builtin .copy, #[x, y], #[t, t2]⟩, ty, ps, af, g0⟩ (fun E' T => E' = (d, .int .i64 xs.length) :: E ∧ T = S') := by
  refine (ES_core (fun u T => u = .int .i64 xs.length ∧ T = S') (fun a w ha hw => ?_) hd).weak (by rintro _ _ ⟨_, ⟨rfl, rfl⟩, rfl⟩; exact ⟨rfl, rfl⟩)
  have ho : Own enc 1 e w 0 (.slice (some ⟨g, 0, none⟩) ls.length c) ls := (hw.holds _ hu.mem).1
  obtain ⟨g', cap, cur, hv, hbb, hg, hnc, hcm, hcs, htake⟩ := ho.2.resolve_left (by simp)
  simp only [Value.slice.injEq, Option.some.injEq, Addr.mk.injEq, and_true, true_and] at hv
  obtain ⟨rfl, rfl⟩ := hv
  have hfl : ∀ l : List α, (l.flatMap enc).length = l.length := fun l => by rw [flat_len hM, Nat.mul_one]
  have hfit : p + (xs.flatMap enc).length ≤ cur.size := by rw [hfl, hcs]; omega
  obtain ⟨i, hi0, hi1, hi2, hi3⟩ := hi.parts
  have hr := run_copy_row P w t t2 ty e g p n k ad sn sk cur e (xs.flatMap enc) hs.und (by rw [hi0]; exact congrArg some hi2) hg (by rw [hfl]; exact hn) (hl w hw) hfit (fun u hu' => by
    obtain ⟨q, hq, hqu⟩ := List.mem_flatMap.1 hu'
    exact List.all_eq_true.1 (h1 q) u hqu)
  refine ⟨.int .i64 xs.length, w.setRow g (cur.toList.take p ++ xs.flatMap enc ++ cur.toList.drop (p + (xs.flatMap enc).length)).toArray, S', ?_, ?_, rfl, rfl⟩
  · rw [hfl] at hr ⊢
    simp [execOp, resolve, invoke, builtin, ha.evo hx, ha.evo hy, hr, goInt]

  · refine hw.upd hu (Keeps.setRow w g _) (by simp [entOwn, Value.ownBlock]) (fun j hj => ?_) ?_
    · have hj' : some g = some j := hj
      cases hj'
      exact ⟨by simpa using (Array.getElem?_eq_some_iff.1 hg).1, .inl rfl⟩
    · have hlen : (ls.take p ++ xs ++ ls.drop (p + xs.length)).length = ls.length := by
        simp only [List.length_append, List.length_take, List.length_drop]; omega
      show Own enc 1 e _ 0 (.slice (some ⟨g, 0, none⟩) (ls.take p ++ xs ++ ls.drop (p + xs.length)).length c) (ls.take p ++ xs ++ ls.drop (p + xs.length))
      refine ⟨flat_len hM _, .inr ⟨g, c, _, rfl, Nat.zero_le _, setRow_heap w g cur _ e _ hg, by rw [hlen]; exact hnc, hcm, ?_, ?_⟩⟩
      · simp only [List.size_toArray, List.length_append, List.length_take, List.length_drop, Array.length_toList] at hfit ⊢; omega
      · have e1 : (ls.take p ++ xs ++ ls.drop (p + xs.length)).flatMap enc = (ls.flatMap enc).take p ++ xs.flatMap enc ++ (ls.flatMap enc).drop (p + xs.length) := by
          rw [List.flatMap_append, List.flatMap_append]
          have t1 := flat_take hM ls p (by omega)
          have t2 : ∀ (l : List α) (i : Nat), (l.drop i).flatMap enc = (l.flatMap enc).drop i := by
            intro l i
            induction l generalizing i with
            | nil => simp
            | cons x l ih =>
              cases i with
              | zero => simp
              | succ i =>
                have e0 : (enc x).drop (i + 1) = [] := List.drop_eq_nil_of_le (by rw [hM]; omega)
                rw [List.drop_succ_cons, ih, List.flatMap_cons, List.drop_append, e0, hM, Nat.add_sub_cancel, List.nil_append]
          rw [t1, t2, Nat.mul_one]
        rw [e1, hlen, hfl, Nat.mul_one, ← htake, Nat.mul_one]
        have hc1 : cur.toList.length = c := by rw [Array.length_toList, hcs, Nat.mul_one]
        have l1 : (cur.toList.take p).length = p := by rw [List.length_take]; omega
        have l2 : (cur.toList.take p ++ xs.flatMap enc).length = p + xs.length := by rw [List.length_append, l1, hfl]
        show List.take ls.length (cur.toList.take p ++ xs.flatMap enc ++ cur.toList.drop (p + xs.length)) = _
        rw [List.take_append, List.take_of_length_le (by rw [l2]; omega), l2, List.take_take, Nat.min_eq_left (by omega), List.drop_take]
end
end Go.Proofs.Ytnflkmjfhbfekaa
