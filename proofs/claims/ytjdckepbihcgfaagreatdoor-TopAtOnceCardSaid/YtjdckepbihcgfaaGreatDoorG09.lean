/- Lemmas for the walks (Obj3, Own2, Obj4). No condition. -/
import Derived.Test.YtjdckepbihcgfaaGreatDoorG08
import Derived.Test.YtjdckepbihcgfaaGreatDoorG06
import Derived.Shelf.Bits.Mul64
set_option linter.unusedSimpArgs false
set_option linter.unusedVariables false
set_option linter.unusedSectionVars false
set_option linter.unnecessarySimpa false
namespace Go.Proofs.YtjdckepbihcgfaaGreatDoor
open Go.RowKit

theorem typ_cases (typ : Int) : typ = 1 ∨ typ = 2 ∨ typ = 3 ∨ typ = 4 ∨ typ = 5 ∨ (typB typ = false ∧ obV typ = .nilIface) := by
  by_cases h : 1 ≤ typ ∧ typ ≤ 5
  · omega
  · right; right; right; right; right
    have h1 : typ ≠ 1 := by omega
    have h2 : typ ≠ 2 := by omega
    have h3 : typ ≠ 3 := by omega
    have h4 : typ ≠ 4 := by omega
    have h5 : typ ≠ 5 := by omega
    refine ⟨?_, by simp [obV, h1, h2, h3, h4, h5]⟩
    rw [Bool.eq_false_iff]; intro ht
    simp only [typB, Bool.and_eq_true, decide_eq_true_eq] at ht
    exact h ht
def begL (typ : Int) : List Int := if typ = 1 ∨ typ = 5 then [0] else []
def begE (typ : Int) : Int := if typB typ = true then 0 else 1
set_option maxRecDepth 100000 in
theorem objStart_any (typ : Int) (w : World) : Calls Tryz.prog 87 #[.int .i64 typ] w fun e w' => ∃ A c, e = .returned (.tuple #[.slice A (begL typ).length c, .int .i64 (begE typ)]) ∧ Own intEnc 1 3 w' w.heap.size (.slice A (begL typ).length c) (begL typ) ∧ Below w.heap.size w w' := by
  have hof := fun w => of_any typ w
  rcases typ_cases typ with rfl | rfl | rfl | rfl | rfl | ⟨hb, hv⟩
  · rw [show obV 1 = .iface 241 (.agg #[]) from rfl] at hof
    refine calls_T (S := []) [] Tryz.func87 rfl Tryz.ntmps87 (by simp) (Mem.nil _) ?_
    repeat' (first | ((first | with_reducible (first | apply TL_q | apply TD_q0 | apply TD_q1 | apply TD_q2 | apply TD_q3) | ((with_reducible (first | apply TD_q0y | apply TD_q1y)); exact rfl; exact rfl; (with_reducible exact rfl))); (first | ((with_reducible apply QS_makeInterface); exact rfl) | ((with_reducible apply QS_ifaceSome); exact rfl; exact rfl) | ((with_reducible apply QS_ifaceNil); exact rfl; exact rfl) | ((with_reducible apply QS_fieldZ); exact rfl; (first | ((repeat (first | with_reducible exact List.mem_cons_self | with_reducible apply List.mem_cons_of_mem)); done) | (repeat (first | exact List.Mem.head _ | apply List.Mem.tail)))) | ((with_reducible apply QS_load); exact rfl; exact Lds.zero _) | exact QS.auto); exact rfl) | refine GO ?_ | (refine GOE ?_; (first | rintro _ _ ⟨rfl, rfl⟩ | rintro _ _ ⟨g, rfl, rfl⟩ | rintro _ _ ⟨A', c', rfl, rfl⟩)) | (refine GO2 ?_ ?_ <;> (refine Zs ?_; intro h; try exact Zx)) | ((with_reducible (first | apply TD_e2z | apply TD_e3z | apply TL_e | apply TD_e2 | apply TD_e3)); ((with_reducible apply ES_callV (f := 132)); exact rfl; (intro w hw; exact hof w); exact rfl); (first | exact rfl | exact ⟨rfl, rfl, rfl⟩); (rintro _ _ ⟨rfl, rfl⟩); (try refine ⟨SUB, ?_⟩)) | ((with_reducible (first | apply TD_e2z | apply TD_e3z | apply TL_e | apply TD_e2 | apply TD_e3)); ((with_reducible apply ES_invokeX (f := 280) (r := .agg #[]) (X := Option Addr × Nat) (S1 := []) (fun x => .slice x.1 ([0] : List Int).length x.2) (fun x => [entOwn intEnc 1 3 x.1 x.2 [0]])); exact rfl; exact ⟨fun w => by kernel_rfl⟩; exact rfl; exact Zp; (intro x; (try dsimp only); exact Za); (intro w hw; exact (singleStart_any w).mono fun e w' ⟨A, c, he, ho, hb⟩ => ⟨(A, c), he, Mem.ofOwn hb ho⟩); exact rfl); (first | exact rfl | exact ⟨rfl, rfl, rfl⟩); (rintro _ _ ⟨⟨A', c'⟩, rfl, rfl⟩); (try refine ⟨SUB, ?_⟩)) | fail)
    (refine At_ret Tryz.results87 rfl (fun w' hw => ?_))
    exact ⟨A', c', rfl, hw.ownOut rfl Zm, hw.below0 rfl⟩
  · rw [show obV 2 = .iface 244 (.agg #[]) from rfl] at hof
    refine calls_T (S := []) [] Tryz.func87 rfl Tryz.ntmps87 (by simp) (Mem.nil _) ?_
    repeat' (first | ((first | with_reducible (first | apply TL_q | apply TD_q0 | apply TD_q1 | apply TD_q2 | apply TD_q3) | ((with_reducible (first | apply TD_q0y | apply TD_q1y)); exact rfl; exact rfl; (with_reducible exact rfl))); (first | ((with_reducible apply QS_makeInterface); exact rfl) | ((with_reducible apply QS_ifaceSome); exact rfl; exact rfl) | ((with_reducible apply QS_ifaceNil); exact rfl; exact rfl) | ((with_reducible apply QS_fieldZ); exact rfl; (first | ((repeat (first | with_reducible exact List.mem_cons_self | with_reducible apply List.mem_cons_of_mem)); done) | (repeat (first | exact List.Mem.head _ | apply List.Mem.tail)))) | ((with_reducible apply QS_load); exact rfl; exact Lds.zero _) | exact QS.auto); exact rfl) | refine GO ?_ | (refine GOE ?_; (first | rintro _ _ ⟨rfl, rfl⟩ | rintro _ _ ⟨g, rfl, rfl⟩ | rintro _ _ ⟨A', c', rfl, rfl⟩)) | (refine GO2 ?_ ?_ <;> (refine Zs ?_; intro h; try exact Zx)) | ((with_reducible (first | apply TD_e2z | apply TD_e3z | apply TL_e | apply TD_e2 | apply TD_e3)); ((with_reducible apply ES_callV (f := 132)); exact rfl; (intro w hw; exact hof w); exact rfl); (first | exact rfl | exact ⟨rfl, rfl, rfl⟩); (rintro _ _ ⟨rfl, rfl⟩); (try refine ⟨SUB, ?_⟩)) | ((with_reducible (first | apply TD_e2z | apply TD_e3z | apply TL_e | apply TD_e2 | apply TD_e3)); ((with_reducible apply ES_invokeV (f := 283) (r := .agg #[])); exact rfl; exact ⟨fun w => by kernel_rfl⟩; exact rfl; (intro w hw; exact manyStart_any w); exact rfl); (first | exact rfl | exact ⟨rfl, rfl, rfl⟩); (rintro _ _ ⟨rfl, rfl⟩); (try refine ⟨SUB, ?_⟩)) | fail)
    (refine At_ret Tryz.results87 rfl (fun w' hw => ?_))
    exact ⟨none, 0, rfl, Own.nil _ _, hw.below0 rfl⟩
  · rw [show obV 3 = .iface 245 (.agg #[]) from rfl] at hof
    refine calls_T (S := []) [] Tryz.func87 rfl Tryz.ntmps87 (by simp) (Mem.nil _) ?_
    repeat' (first | ((first | with_reducible (first | apply TL_q | apply TD_q0 | apply TD_q1 | apply TD_q2 | apply TD_q3) | ((with_reducible (first | apply TD_q0y | apply TD_q1y)); exact rfl; exact rfl; (with_reducible exact rfl))); (first | ((with_reducible apply QS_makeInterface); exact rfl) | ((with_reducible apply QS_ifaceSome); exact rfl; exact rfl) | ((with_reducible apply QS_ifaceNil); exact rfl; exact rfl) | ((with_reducible apply QS_fieldZ); exact rfl; (first | ((repeat (first | with_reducible exact List.mem_cons_self | with_reducible apply List.mem_cons_of_mem)); done) | (repeat (first | exact List.Mem.head _ | apply List.Mem.tail)))) | ((with_reducible apply QS_load); exact rfl; exact Lds.zero _) | exact QS.auto); exact rfl) | refine GO ?_ | (refine GOE ?_; (first | rintro _ _ ⟨rfl, rfl⟩ | rintro _ _ ⟨g, rfl, rfl⟩ | rintro _ _ ⟨A', c', rfl, rfl⟩)) | (refine GO2 ?_ ?_ <;> (refine Zs ?_; intro h; try exact Zx)) | ((with_reducible (first | apply TD_e2z | apply TD_e3z | apply TL_e | apply TD_e2 | apply TD_e3)); ((with_reducible apply ES_callV (f := 132)); exact rfl; (intro w hw; exact hof w); exact rfl); (first | exact rfl | exact ⟨rfl, rfl, rfl⟩); (rintro _ _ ⟨rfl, rfl⟩); (try refine ⟨SUB, ?_⟩)) | ((with_reducible (first | apply TD_e2z | apply TD_e3z | apply TL_e | apply TD_e2 | apply TD_e3)); ((with_reducible apply ES_invokeV (f := 283) (r := .agg #[])); exact rfl; exact ⟨fun w => by kernel_rfl⟩; exact rfl; (intro w hw; exact manyStart_any w); exact rfl); (first | exact rfl | exact ⟨rfl, rfl, rfl⟩); (rintro _ _ ⟨rfl, rfl⟩); (try refine ⟨SUB, ?_⟩)) | fail)
    (refine At_ret Tryz.results87 rfl (fun w' hw => ?_))
    exact ⟨none, 0, rfl, Own.nil _ _, hw.below0 rfl⟩
  · rw [show obV 4 = .iface 246 (.agg #[]) from rfl] at hof
    refine calls_T (S := []) [] Tryz.func87 rfl Tryz.ntmps87 (by simp) (Mem.nil _) ?_
    repeat' (first | ((first | with_reducible (first | apply TL_q | apply TD_q0 | apply TD_q1 | apply TD_q2 | apply TD_q3) | ((with_reducible (first | apply TD_q0y | apply TD_q1y)); exact rfl; exact rfl; (with_reducible exact rfl))); (first | ((with_reducible apply QS_makeInterface); exact rfl) | ((with_reducible apply QS_ifaceSome); exact rfl; exact rfl) | ((with_reducible apply QS_ifaceNil); exact rfl; exact rfl) | ((with_reducible apply QS_fieldZ); exact rfl; (first | ((repeat (first | with_reducible exact List.mem_cons_self | with_reducible apply List.mem_cons_of_mem)); done) | (repeat (first | exact List.Mem.head _ | apply List.Mem.tail)))) | ((with_reducible apply QS_load); exact rfl; exact Lds.zero _) | exact QS.auto); exact rfl) | refine GO ?_ | (refine GOE ?_; (first | rintro _ _ ⟨rfl, rfl⟩ | rintro _ _ ⟨g, rfl, rfl⟩ | rintro _ _ ⟨A', c', rfl, rfl⟩)) | (refine GO2 ?_ ?_ <;> (refine Zs ?_; intro h; try exact Zx)) | ((with_reducible (first | apply TD_e2z | apply TD_e3z | apply TL_e | apply TD_e2 | apply TD_e3)); ((with_reducible apply ES_callV (f := 132)); exact rfl; (intro w hw; exact hof w); exact rfl); (first | exact rfl | exact ⟨rfl, rfl, rfl⟩); (rintro _ _ ⟨rfl, rfl⟩); (try refine ⟨SUB, ?_⟩)) | ((with_reducible (first | apply TD_e2z | apply TD_e3z | apply TL_e | apply TD_e2 | apply TD_e3)); ((with_reducible apply ES_invokeV (f := 283) (r := .agg #[])); exact rfl; exact ⟨fun w => by kernel_rfl⟩; exact rfl; (intro w hw; exact manyStart_any w); exact rfl); (first | exact rfl | exact ⟨rfl, rfl, rfl⟩); (rintro _ _ ⟨rfl, rfl⟩); (try refine ⟨SUB, ?_⟩)) | fail)
    (refine At_ret Tryz.results87 rfl (fun w' hw => ?_))
    exact ⟨none, 0, rfl, Own.nil _ _, hw.below0 rfl⟩
  · rw [show obV 5 = .iface 247 (.agg #[]) from rfl] at hof
    refine calls_T (S := []) [] Tryz.func87 rfl Tryz.ntmps87 (by simp) (Mem.nil _) ?_
    repeat' (first | ((first | with_reducible (first | apply TL_q | apply TD_q0 | apply TD_q1 | apply TD_q2 | apply TD_q3) | ((with_reducible (first | apply TD_q0y | apply TD_q1y)); exact rfl; exact rfl; (with_reducible exact rfl))); (first | ((with_reducible apply QS_makeInterface); exact rfl) | ((with_reducible apply QS_ifaceSome); exact rfl; exact rfl) | ((with_reducible apply QS_ifaceNil); exact rfl; exact rfl) | ((with_reducible apply QS_fieldZ); exact rfl; (first | ((repeat (first | with_reducible exact List.mem_cons_self | with_reducible apply List.mem_cons_of_mem)); done) | (repeat (first | exact List.Mem.head _ | apply List.Mem.tail)))) | ((with_reducible apply QS_load); exact rfl; exact Lds.zero _) | exact QS.auto); exact rfl) | refine GO ?_ | (refine GOE ?_; (first | rintro _ _ ⟨rfl, rfl⟩ | rintro _ _ ⟨g, rfl, rfl⟩ | rintro _ _ ⟨A', c', rfl, rfl⟩)) | (refine GO2 ?_ ?_ <;> (refine Zs ?_; intro h; try exact Zx)) | ((with_reducible (first | apply TD_e2z | apply TD_e3z | apply TL_e | apply TD_e2 | apply TD_e3)); ((with_reducible apply ES_callV (f := 132)); exact rfl; (intro w hw; exact hof w); exact rfl); (first | exact rfl | exact ⟨rfl, rfl, rfl⟩); (rintro _ _ ⟨rfl, rfl⟩); (try refine ⟨SUB, ?_⟩)) | ((with_reducible (first | apply TD_e2z | apply TD_e3z | apply TL_e | apply TD_e2 | apply TD_e3)); ((with_reducible apply ES_invokeX (f := 280) (r := .agg #[]) (X := Option Addr × Nat) (S1 := []) (fun x => .slice x.1 ([0] : List Int).length x.2) (fun x => [entOwn intEnc 1 3 x.1 x.2 [0]])); exact rfl; exact ⟨fun w => by kernel_rfl⟩; exact rfl; exact Zp; (intro x; (try dsimp only); exact Za); (intro w hw; exact (singleStart_any w).mono fun e w' ⟨A, c, he, ho, hb⟩ => ⟨(A, c), he, Mem.ofOwn hb ho⟩); exact rfl); (first | exact rfl | exact ⟨rfl, rfl, rfl⟩); (rintro _ _ ⟨⟨A', c'⟩, rfl, rfl⟩); (try refine ⟨SUB, ?_⟩)) | fail)
    (refine At_ret Tryz.results87 rfl (fun w' hw => ?_))
    exact ⟨A', c', rfl, hw.ownOut rfl Zm, hw.below0 rfl⟩
  · rw [hv] at hof
    have hc : begE typ = 1 := by simp [begE, hb]
    have hl : begL typ = [] := by
      have h1 : ¬ (typ = 1 ∨ typ = 5) := by
        rintro (rfl | rfl) <;> cases hb
      simp [begL, h1]
    rw [hc, hl]
    refine calls_T (S := []) [] Tryz.func87 rfl Tryz.ntmps87 (by simp) (Mem.nil _) ?_
    repeat' (first | ((first | with_reducible (first | apply TL_q | apply TD_q0 | apply TD_q1 | apply TD_q2 | apply TD_q3) | ((with_reducible (first | apply TD_q0y | apply TD_q1y)); exact rfl; exact rfl; (with_reducible exact rfl))); (first | ((with_reducible apply QS_makeInterface); exact rfl) | ((with_reducible apply QS_ifaceSome); exact rfl; exact rfl) | ((with_reducible apply QS_ifaceNil); exact rfl; exact rfl) | ((with_reducible apply QS_fieldZ); exact rfl; (first | ((repeat (first | with_reducible exact List.mem_cons_self | with_reducible apply List.mem_cons_of_mem)); done) | (repeat (first | exact List.Mem.head _ | apply List.Mem.tail)))) | ((with_reducible apply QS_load); exact rfl; exact Lds.zero _) | exact QS.auto); exact rfl) | refine GO ?_ | (refine GOE ?_; (first | rintro _ _ ⟨rfl, rfl⟩ | rintro _ _ ⟨g, rfl, rfl⟩ | rintro _ _ ⟨A', c', rfl, rfl⟩)) | (refine GO2 ?_ ?_ <;> (refine Zs ?_; intro h; try exact Zx)) | ((with_reducible (first | apply TD_e2z | apply TD_e3z | apply TL_e | apply TD_e2 | apply TD_e3)); ((with_reducible apply ES_callV (f := 132)); exact rfl; (intro w hw; exact hof w); exact rfl); (first | exact rfl | exact ⟨rfl, rfl, rfl⟩); (rintro _ _ ⟨rfl, rfl⟩); (try refine ⟨SUB, ?_⟩)) | fail)
    (refine At_ret Tryz.results87 rfl (fun w' hw => ?_))
    exact ⟨none, 0, rfl, Own.nil _ _, hw.below0 rfl⟩
section
variable (A : Option Addr) (c : Nat) (s : List Int) (w : World) (hA : RdInt w A s) (hl : s.length ≤ 9223372036854775807)
include hA hl
set_option maxRecDepth 100000 in
theorem objCheck_any (typ : Int) : Calls Tryz.prog 198 #[.int .i64 typ, .slice A s.length c] w fun e w' => e = .returned (.int .i64 (chkS typ s)) ∧ Below w.heap.size w w' := by
  have hof := fun w => of_any typ w
  rcases typ_cases typ with rfl | rfl | rfl | rfl | rfl | ⟨hb, hv⟩
  · have hi := fun w hA => singleValid_any A c s w hA
    have hc : chkS 1 s = if 50 < s.length then 2 else if oneB s = true then 0 else 3 := rfl
    rw [hc]
    generalize oneB s = z at *
    rw [show obV 1 = .iface 241 (.agg #[]) from rfl] at hof
    refine calls_T (S := []) [] Tryz.func198 rfl Tryz.ntmps198 (by simp) (Mem.nil _) ?_
    repeat' (first | ((first | with_reducible (first | apply TL_q | apply TD_q0 | apply TD_q1 | apply TD_q2 | apply TD_q3) | ((with_reducible (first | apply TD_q0y | apply TD_q1y)); exact rfl; exact rfl; (with_reducible exact rfl))); (first | ((with_reducible apply QS_makeInterface); exact rfl) | ((with_reducible apply QS_ifaceSome); exact rfl; exact rfl) | ((with_reducible apply QS_ifaceNil); exact rfl; exact rfl) | ((with_reducible apply QS_fieldZ); exact rfl; (first | ((repeat (first | with_reducible exact List.mem_cons_self | with_reducible apply List.mem_cons_of_mem)); done) | (repeat (first | exact List.Mem.head _ | apply List.Mem.tail)))) | ((with_reducible apply QS_load); exact rfl; exact Lds.zero _) | exact QS.auto); exact rfl) | refine GO ?_ | (refine GOE ?_; (first | rintro _ _ ⟨rfl, rfl⟩ | rintro _ _ ⟨g, rfl, rfl⟩ | rintro _ _ ⟨A', c', rfl, rfl⟩)) | (refine GO2 ?_ ?_ <;> (refine Zs ?_; intro h; try exact Zx)) | ((with_reducible (first | apply TD_e2z | apply TD_e3z | apply TL_e | apply TD_e2 | apply TD_e3)); ((with_reducible apply ES_callV (f := 132)); exact rfl; (intro w hw; exact hof w); exact rfl); (first | exact rfl | exact ⟨rfl, rfl, rfl⟩); (rintro _ _ ⟨rfl, rfl⟩); (try refine ⟨SUB, ?_⟩)) | ((with_reducible (first | apply TD_e2z | apply TD_e3z | apply TL_e | apply TD_e2 | apply TD_e3)); ((with_reducible apply ES_invokeV (f := 281) (r := .agg #[])); exact rfl; exact ⟨fun w => by kernel_rfl⟩; exact rfl; (intro w hw; exact hi w (hw.rd rfl hA)); exact rfl); (first | exact rfl | exact ⟨rfl, rfl, rfl⟩); (rintro _ _ ⟨rfl, rfl⟩); (try refine ⟨SUB, ?_⟩)) | fail)
    all_goals (refine At_ret Tryz.results198 rfl (fun w' hw => ?_))
    all_goals refine ⟨?_, hw.below0 rfl⟩
    · rw [if_pos (by omega)]; rfl
    · rw [if_neg (by omega), if_neg (by simp [‹z = false›])]; rfl
    · rw [if_neg (by omega), if_pos ‹z = true›]; rfl
  · have hi := fun w hA => manyValid_any A c s w hA hl
    have hc : chkS 2 s = if 50 < s.length then 2 else if s.all okI = true then 0 else 3 := rfl
    rw [hc]
    generalize s.all okI = z at *
    rw [show obV 2 = .iface 244 (.agg #[]) from rfl] at hof
    refine calls_T (S := []) [] Tryz.func198 rfl Tryz.ntmps198 (by simp) (Mem.nil _) ?_
    repeat' (first | ((first | with_reducible (first | apply TL_q | apply TD_q0 | apply TD_q1 | apply TD_q2 | apply TD_q3) | ((with_reducible (first | apply TD_q0y | apply TD_q1y)); exact rfl; exact rfl; (with_reducible exact rfl))); (first | ((with_reducible apply QS_makeInterface); exact rfl) | ((with_reducible apply QS_ifaceSome); exact rfl; exact rfl) | ((with_reducible apply QS_ifaceNil); exact rfl; exact rfl) | ((with_reducible apply QS_fieldZ); exact rfl; (first | ((repeat (first | with_reducible exact List.mem_cons_self | with_reducible apply List.mem_cons_of_mem)); done) | (repeat (first | exact List.Mem.head _ | apply List.Mem.tail)))) | ((with_reducible apply QS_load); exact rfl; exact Lds.zero _) | exact QS.auto); exact rfl) | refine GO ?_ | (refine GOE ?_; (first | rintro _ _ ⟨rfl, rfl⟩ | rintro _ _ ⟨g, rfl, rfl⟩ | rintro _ _ ⟨A', c', rfl, rfl⟩)) | (refine GO2 ?_ ?_ <;> (refine Zs ?_; intro h; try exact Zx)) | ((with_reducible (first | apply TD_e2z | apply TD_e3z | apply TL_e | apply TD_e2 | apply TD_e3)); ((with_reducible apply ES_callV (f := 132)); exact rfl; (intro w hw; exact hof w); exact rfl); (first | exact rfl | exact ⟨rfl, rfl, rfl⟩); (rintro _ _ ⟨rfl, rfl⟩); (try refine ⟨SUB, ?_⟩)) | ((with_reducible (first | apply TD_e2z | apply TD_e3z | apply TL_e | apply TD_e2 | apply TD_e3)); ((with_reducible apply ES_invokeV (f := 284) (r := .agg #[])); exact rfl; exact ⟨fun w => by kernel_rfl⟩; exact rfl; (intro w hw; exact hi w (hw.rd rfl hA)); exact rfl); (first | exact rfl | exact ⟨rfl, rfl, rfl⟩); (rintro _ _ ⟨rfl, rfl⟩); (try refine ⟨SUB, ?_⟩)) | fail)
    all_goals (refine At_ret Tryz.results198 rfl (fun w' hw => ?_))
    all_goals refine ⟨?_, hw.below0 rfl⟩
    · rw [if_pos (by omega)]; rfl
    · rw [if_neg (by omega), if_neg (by simp [‹z = false›])]; rfl
    · rw [if_neg (by omega), if_pos ‹z = true›]; rfl
  · have hi := fun w hA => manyValid_any A c s w hA hl
    have hc : chkS 3 s = if 50 < s.length then 2 else if s.all okI = true then 0 else 3 := rfl
    rw [hc]
    generalize s.all okI = z at *
    rw [show obV 3 = .iface 245 (.agg #[]) from rfl] at hof
    refine calls_T (S := []) [] Tryz.func198 rfl Tryz.ntmps198 (by simp) (Mem.nil _) ?_
    repeat' (first | ((first | with_reducible (first | apply TL_q | apply TD_q0 | apply TD_q1 | apply TD_q2 | apply TD_q3) | ((with_reducible (first | apply TD_q0y | apply TD_q1y)); exact rfl; exact rfl; (with_reducible exact rfl))); (first | ((with_reducible apply QS_makeInterface); exact rfl) | ((with_reducible apply QS_ifaceSome); exact rfl; exact rfl) | ((with_reducible apply QS_ifaceNil); exact rfl; exact rfl) | ((with_reducible apply QS_fieldZ); exact rfl; (first | ((repeat (first | with_reducible exact List.mem_cons_self | with_reducible apply List.mem_cons_of_mem)); done) | (repeat (first | exact List.Mem.head _ | apply List.Mem.tail)))) | ((with_reducible apply QS_load); exact rfl; exact Lds.zero _) | exact QS.auto); exact rfl) | refine GO ?_ | (refine GOE ?_; (first | rintro _ _ ⟨rfl, rfl⟩ | rintro _ _ ⟨g, rfl, rfl⟩ | rintro _ _ ⟨A', c', rfl, rfl⟩)) | (refine GO2 ?_ ?_ <;> (refine Zs ?_; intro h; try exact Zx)) | ((with_reducible (first | apply TD_e2z | apply TD_e3z | apply TL_e | apply TD_e2 | apply TD_e3)); ((with_reducible apply ES_callV (f := 132)); exact rfl; (intro w hw; exact hof w); exact rfl); (first | exact rfl | exact ⟨rfl, rfl, rfl⟩); (rintro _ _ ⟨rfl, rfl⟩); (try refine ⟨SUB, ?_⟩)) | ((with_reducible (first | apply TD_e2z | apply TD_e3z | apply TL_e | apply TD_e2 | apply TD_e3)); ((with_reducible apply ES_invokeV (f := 284) (r := .agg #[])); exact rfl; exact ⟨fun w => by kernel_rfl⟩; exact rfl; (intro w hw; exact hi w (hw.rd rfl hA)); exact rfl); (first | exact rfl | exact ⟨rfl, rfl, rfl⟩); (rintro _ _ ⟨rfl, rfl⟩); (try refine ⟨SUB, ?_⟩)) | fail)
    all_goals (refine At_ret Tryz.results198 rfl (fun w' hw => ?_))
    all_goals refine ⟨?_, hw.below0 rfl⟩
    · rw [if_pos (by omega)]; rfl
    · rw [if_neg (by omega), if_neg (by simp [‹z = false›])]; rfl
    · rw [if_neg (by omega), if_pos ‹z = true›]; rfl
  · have hi := fun w hA => setValid_any A c s w hA hl
    have hc : chkS 4 s = if 50 < s.length then 2 else if (ascB s && s.all okI) = true then 0 else 3 := rfl
    rw [hc]
    generalize (ascB s && s.all okI) = z at *
    rw [show obV 4 = .iface 246 (.agg #[]) from rfl] at hof
    refine calls_T (S := []) [] Tryz.func198 rfl Tryz.ntmps198 (by simp) (Mem.nil _) ?_
    repeat' (first | ((first | with_reducible (first | apply TL_q | apply TD_q0 | apply TD_q1 | apply TD_q2 | apply TD_q3) | ((with_reducible (first | apply TD_q0y | apply TD_q1y)); exact rfl; exact rfl; (with_reducible exact rfl))); (first | ((with_reducible apply QS_makeInterface); exact rfl) | ((with_reducible apply QS_ifaceSome); exact rfl; exact rfl) | ((with_reducible apply QS_ifaceNil); exact rfl; exact rfl) | ((with_reducible apply QS_fieldZ); exact rfl; (first | ((repeat (first | with_reducible exact List.mem_cons_self | with_reducible apply List.mem_cons_of_mem)); done) | (repeat (first | exact List.Mem.head _ | apply List.Mem.tail)))) | ((with_reducible apply QS_load); exact rfl; exact Lds.zero _) | exact QS.auto); exact rfl) | refine GO ?_ | (refine GOE ?_; (first | rintro _ _ ⟨rfl, rfl⟩ | rintro _ _ ⟨g, rfl, rfl⟩ | rintro _ _ ⟨A', c', rfl, rfl⟩)) | (refine GO2 ?_ ?_ <;> (refine Zs ?_; intro h; try exact Zx)) | ((with_reducible (first | apply TD_e2z | apply TD_e3z | apply TL_e | apply TD_e2 | apply TD_e3)); ((with_reducible apply ES_callV (f := 132)); exact rfl; (intro w hw; exact hof w); exact rfl); (first | exact rfl | exact ⟨rfl, rfl, rfl⟩); (rintro _ _ ⟨rfl, rfl⟩); (try refine ⟨SUB, ?_⟩)) | ((with_reducible (first | apply TD_e2z | apply TD_e3z | apply TL_e | apply TD_e2 | apply TD_e3)); ((with_reducible apply ES_invokeV (f := 290) (r := .agg #[])); exact rfl; exact ⟨fun w => by kernel_rfl⟩; exact rfl; (intro w hw; exact hi w (hw.rd rfl hA)); exact rfl); (first | exact rfl | exact ⟨rfl, rfl, rfl⟩); (rintro _ _ ⟨rfl, rfl⟩); (try refine ⟨SUB, ?_⟩)) | fail)
    all_goals (refine At_ret Tryz.results198 rfl (fun w' hw => ?_))
    all_goals refine ⟨?_, hw.below0 rfl⟩
    · rw [if_pos (by omega)]; rfl
    · rw [if_neg (by omega), if_neg (by simp [‹z = false›])]; rfl
    · rw [if_neg (by omega), if_pos ‹z = true›]; rfl
  · have hi := fun w hA => singleValid_any A c s w hA
    have hc : chkS 5 s = if 50 < s.length then 2 else if oneB s = true then 0 else 3 := rfl
    rw [hc]
    generalize oneB s = z at *
    rw [show obV 5 = .iface 247 (.agg #[]) from rfl] at hof
    refine calls_T (S := []) [] Tryz.func198 rfl Tryz.ntmps198 (by simp) (Mem.nil _) ?_
    repeat' (first | ((first | with_reducible (first | apply TL_q | apply TD_q0 | apply TD_q1 | apply TD_q2 | apply TD_q3) | ((with_reducible (first | apply TD_q0y | apply TD_q1y)); exact rfl; exact rfl; (with_reducible exact rfl))); (first | ((with_reducible apply QS_makeInterface); exact rfl) | ((with_reducible apply QS_ifaceSome); exact rfl; exact rfl) | ((with_reducible apply QS_ifaceNil); exact rfl; exact rfl) | ((with_reducible apply QS_fieldZ); exact rfl; (first | ((repeat (first | with_reducible exact List.mem_cons_self | with_reducible apply List.mem_cons_of_mem)); done) | (repeat (first | exact List.Mem.head _ | apply List.Mem.tail)))) | ((with_reducible apply QS_load); exact rfl; exact Lds.zero _) | exact QS.auto); exact rfl) | refine GO ?_ | (refine GOE ?_; (first | rintro _ _ ⟨rfl, rfl⟩ | rintro _ _ ⟨g, rfl, rfl⟩ | rintro _ _ ⟨A', c', rfl, rfl⟩)) | (refine GO2 ?_ ?_ <;> (refine Zs ?_; intro h; try exact Zx)) | ((with_reducible (first | apply TD_e2z | apply TD_e3z | apply TL_e | apply TD_e2 | apply TD_e3)); ((with_reducible apply ES_callV (f := 132)); exact rfl; (intro w hw; exact hof w); exact rfl); (first | exact rfl | exact ⟨rfl, rfl, rfl⟩); (rintro _ _ ⟨rfl, rfl⟩); (try refine ⟨SUB, ?_⟩)) | ((with_reducible (first | apply TD_e2z | apply TD_e3z | apply TL_e | apply TD_e2 | apply TD_e3)); ((with_reducible apply ES_invokeV (f := 281) (r := .agg #[])); exact rfl; exact ⟨fun w => by kernel_rfl⟩; exact rfl; (intro w hw; exact hi w (hw.rd rfl hA)); exact rfl); (first | exact rfl | exact ⟨rfl, rfl, rfl⟩); (rintro _ _ ⟨rfl, rfl⟩); (try refine ⟨SUB, ?_⟩)) | fail)
    all_goals (refine At_ret Tryz.results198 rfl (fun w' hw => ?_))
    all_goals refine ⟨?_, hw.below0 rfl⟩
    · rw [if_pos (by omega)]; rfl
    · rw [if_neg (by omega), if_neg (by simp [‹z = false›])]; rfl
    · rw [if_neg (by omega), if_pos ‹z = true›]; rfl
  · rw [hv] at hof
    have hc : chkS typ s = 1 := by simp [chkS, hb]
    rw [hc]
    refine calls_T (S := []) [] Tryz.func198 rfl Tryz.ntmps198 (by simp) (Mem.nil _) ?_
    repeat' (first | ((first | with_reducible (first | apply TL_q | apply TD_q0 | apply TD_q1 | apply TD_q2 | apply TD_q3) | ((with_reducible (first | apply TD_q0y | apply TD_q1y)); exact rfl; exact rfl; (with_reducible exact rfl))); (first | ((with_reducible apply QS_makeInterface); exact rfl) | ((with_reducible apply QS_ifaceSome); exact rfl; exact rfl) | ((with_reducible apply QS_ifaceNil); exact rfl; exact rfl) | ((with_reducible apply QS_fieldZ); exact rfl; (first | ((repeat (first | with_reducible exact List.mem_cons_self | with_reducible apply List.mem_cons_of_mem)); done) | (repeat (first | exact List.Mem.head _ | apply List.Mem.tail)))) | ((with_reducible apply QS_load); exact rfl; exact Lds.zero _) | exact QS.auto); exact rfl) | refine GO ?_ | (refine GOE ?_; (first | rintro _ _ ⟨rfl, rfl⟩ | rintro _ _ ⟨g, rfl, rfl⟩ | rintro _ _ ⟨A', c', rfl, rfl⟩)) | (refine GO2 ?_ ?_ <;> (refine Zs ?_; intro h; try exact Zx)) | ((with_reducible (first | apply TD_e2z | apply TD_e3z | apply TL_e | apply TD_e2 | apply TD_e3)); ((with_reducible apply ES_callV (f := 132)); exact rfl; (intro w hw; exact hof w); exact rfl); (first | exact rfl | exact ⟨rfl, rfl, rfl⟩); (rintro _ _ ⟨rfl, rfl⟩); (try refine ⟨SUB, ?_⟩)) | fail)
    (refine At_ret Tryz.results198 rfl (fun w' hw => ?_))
    exact ⟨rfl, hw.below0 rfl⟩
end
end Go.Proofs.YtjdckepbihcgfaaGreatDoor

namespace Go.Proofs.YtjdckepbihcgfaaGreatDoor
open Go.RowKit

theorem flat_div {α : Type} {enc : α → List Value} {M : Nat} (hM : ∀ x, (enc x).length = M) (h0 : 0 < M) : ∀ (l : List α) (j : Nat), (l.flatMap enc)[j]? = (l[j / M]?).bind fun x => (enc x)[j % M]?
  | [], j => by simp
  | x :: l, j => by
    rw [List.flatMap_cons]
    rcases Nat.lt_or_ge j M with h | h
    · rw [List.getElem?_append_left (by rw [hM]; exact h), Nat.div_eq_of_lt h, Nat.mod_eq_of_lt h]
      simp
    · rw [List.getElem?_append_right (by rw [hM]; exact h), hM, flat_div hM h0 l (j - M), Nat.div_eq_sub_div h0 h, ← Nat.mod_eq_sub_mod h]
      simp
theorem Lies.rd {C : Ctx} {S : List Ent} {α : Type} {enc : α → List Value} {M : Nat} {l : List α} {A : Option Addr} {c : Nat} (hR : RdE enc M C.w0 A l) (hF : C.F = []) (hM : ∀ x, (enc x).length = M) (h0 : 0 < M) (hA : A = none → c = 0) : Lies C S (.slice A l.length c) l.length (l.flatMap enc) := by
  cases A with
  | none =>
    have hl : l = [] := by
      cases l with
      | nil => rfl
      | cons x l => obtain ⟨b, o, h, _⟩ := hR.open (by simp); cases h
    subst hl
    exact .inl ⟨rfl, rfl, by rw [hA rfl]; rfl⟩
  | some ad =>
    refine .inr ⟨ad, c, rfl, fun w hw j u hu => ?_⟩
    rw [flat_div hM h0, Option.bind_eq_some_iff] at hu
    obtain ⟨x, hx, hu⟩ := hu
    obtain ⟨b, o, he, hb, hc⟩ := hR (j / M) x hx
    cases he
    have := hc (j % M) u hu
    rw [add_mk]
    refine hw.old hb (by simp [hF]) ?_
    rw [← this]
    congr 2
    have := Nat.div_add_mod j M
    rw [Nat.mul_comm] at this
    omega
/-- a cell that was there -/
theorem Lds.old {P : Program} {C : Ctx} {S : List Ent} {s b k : Nat} {v : Value} [OneCell P s] (hb : b < C.w0.heap.size) (hF : b ∉ C.F) (hc : C.w0.cell? ⟨b, k, none⟩ = some v) : Lds P C S s ⟨b, k, none⟩ v :=
  Lds.one fun w hw => hw.old hb hF hc
end Go.Proofs.YtjdckepbihcgfaaGreatDoor

namespace Go.Proofs.YtjdckepbihcgfaaGreatDoor
open Go.RowKit

section
variable {P : Program} {C : Ctx} {E : Slots} {S : List Ent} {ty ty2 ty3 a b : Nat} {x y : Operand}
theorem QS_shrU64 {k : IntKind} (hx : evo E x = some (.int .u64 (a : Nat))) (hy : evo E y = some (.int k (b : Nat))) (ha : a < 18446744073709551616) : QS P C E S (.binOp .shr ty2 x y ty3) ty (.int .u64 ((a >>> b : Nat) : Int)) :=
  QS.of (fun _ w he _ => binShift he hx hy _ (by
    have := shr_nat a b 64 (by omega)
    have hn : ¬ ((b : Int) < 0) := by omega
    simp only [binOp, Op.shift, IntKind.bits, if_neg hn, Int.toNat_natCast, this]; rfl))
end
section
variable (A : Option Addr) (c : Nat) (s : List Int) (w : World) (hA : RdInt w A s) (hl : s.length ≤ 1000)
include hA hl
set_option maxRecDepth 100000 in
theorem clone_any : Calls Tryz.prog 199 #[.slice A s.length c] w fun e w' => ∃ A' c', e = .returned (.slice A' s.length c') ∧ Own intEnc 1 3 w' w.heap.size (.slice A' s.length c') s ∧ Below w.heap.size w w' := by
  cases A with
  | none =>
    have hs : s = [] := by
      cases s with
      | nil => rfl
      | cons x s =>
        obtain ⟨b, o, h, _⟩ := hA 0 x rfl
        cases h
    subst hs
    refine calls_T (S := []) [] Tryz.func199 rfl Tryz.ntmps199 (by simp) (Mem.nil _) ?_
    repeat' (first | ((first | with_reducible (first | apply TL_q | apply TD_q0 | apply TD_q1 | apply TD_q2 | apply TD_q3) | ((with_reducible (first | apply TD_q0y | apply TD_q1y)); exact rfl; exact rfl; (with_reducible exact rfl))); (first | exact QS.auto | ((with_reducible apply QS_shrU64 (a := i + j) (b := 1)); exact rfl; exact rfl; omega)); exact rfl) | refine GO ?_ | (refine GOE ?_; (first | rintro _ _ ⟨rfl, rfl⟩ | rintro _ _ ⟨g, rfl, rfl⟩ | rintro _ _ ⟨A', c', rfl, rfl⟩)) | (refine GO2 ?_ ?_ <;> (refine Zs ?_; intro h; try exact Zx)) | fail)
    all_goals first
      | ((refine At_ret Tryz.results199 rfl (fun w' hw => ?_))
         exact ⟨none, 0, rfl, Own.nil _ _, hw.below0 rfl⟩)
      | (exfalso; simp_all; done)
  | some ad =>
    have hne : some ad = none → c = 0 := fun h => by cases h
    refine calls_T (S := []) [] Tryz.func199 rfl Tryz.ntmps199 (by simp) (Mem.nil _) ?_
    repeat' (first | ((first | with_reducible (first | apply TL_q | apply TD_q0 | apply TD_q1 | apply TD_q2 | apply TD_q3) | ((with_reducible (first | apply TD_q0y | apply TD_q1y)); exact rfl; exact rfl; (with_reducible exact rfl))); (first | exact QS.auto | ((with_reducible apply QS_shrU64 (a := i + j) (b := 1)); exact rfl; exact rfl; omega)); exact rfl) | refine GO ?_ | (refine GOE ?_; (first | rintro _ _ ⟨rfl, rfl⟩ | rintro _ _ ⟨g, rfl, rfl⟩ | rintro _ _ ⟨A', c', rfl, rfl⟩)) | (refine GO2 ?_ ?_ <;> (refine Zs ?_; intro h; try exact Zx)) | ((with_reducible (first | apply TD_e2z | apply TD_e3z | apply TL_e | apply TD_e2 | apply TD_e3)); ((with_reducible apply ES_buildSlice0 intEnc); exact rfl); (first | exact rfl | exact ⟨rfl, rfl, rfl⟩); (rintro _ _ ⟨g, rfl, rfl⟩); (try refine ⟨SUB, ?_⟩)) | ((with_reducible (first | apply TD_e2z | apply TD_e3z | apply TL_e | apply TD_e2 | apply TD_e3)); ((with_reducible apply ES_append (enc := intEnc) (xs := s) (ls := [])); exact rfl; exact rfl; exact Lies.rd hA rfl (fun _ => rfl) (by omega) hne; exact fun _ => rfl; exact fun _ => rfl; (intro A' c'; first | ((repeat (first | with_reducible exact Upd.here _ _ _ | with_reducible apply Upd.there)); done) | (repeat (first | exact Upd.here _ _ _ | apply Upd.there))); (simp; omega); decide; exact rfl); (first | exact rfl | exact ⟨rfl, rfl, rfl⟩); (rintro _ _ ⟨A', c', rfl, rfl⟩); (try refine ⟨SUB, ?_⟩)) | fail)
    (refine At_ret Tryz.results199 rfl (fun w' hw => ?_))
    exact ⟨A', c', rfl, hw.ownOut rfl Zm, hw.below0 rfl⟩
end
set_option maxRecDepth 100000 in
theorem cNaN_any (x : Int) (w : World) : Calls Tryz.prog 173 #[.int .i64 x] w fun e w' => e = .returned (.bool false) ∧ Below w.heap.size w w' := by
  refine calls_T (S := []) [] Tryz.func173 rfl Tryz.ntmps173 (by simp) (Mem.nil _) ?_
  repeat' (first | ((first | with_reducible (first | apply TL_q | apply TD_q0 | apply TD_q1 | apply TD_q2 | apply TD_q3) | ((with_reducible (first | apply TD_q0y | apply TD_q1y)); exact rfl; exact rfl; (with_reducible exact rfl))); (first | exact QS.auto | ((with_reducible apply QS_shrU64 (a := i + j) (b := 1)); exact rfl; exact rfl; omega)); exact rfl) | refine GO ?_ | (refine GOE ?_; (first | rintro _ _ ⟨rfl, rfl⟩ | rintro _ _ ⟨g, rfl, rfl⟩ | rintro _ _ ⟨A', c', rfl, rfl⟩)) | (refine GO2 ?_ ?_ <;> (refine Zs ?_; intro h; try exact Zx)) | fail)
  (refine At_ret Tryz.results173 rfl (fun w' hw => ?_))
  exact ⟨by simp [resVal], hw.below0 rfl⟩
set_option maxRecDepth 100000 in
theorem sNaN_any (x : Int) (w : World) : Calls Tryz.prog 294 #[.int .i64 x] w fun e w' => e = .returned (.bool false) ∧ Below w.heap.size w w' := by
  refine calls_T (S := []) [] Tryz.func294 rfl Tryz.ntmps294 (by simp) (Mem.nil _) ?_
  repeat' (first | ((first | with_reducible (first | apply TL_q | apply TD_q0 | apply TD_q1 | apply TD_q2 | apply TD_q3) | ((with_reducible (first | apply TD_q0y | apply TD_q1y)); exact rfl; exact rfl; (with_reducible exact rfl))); (first | exact QS.auto | ((with_reducible apply QS_shrU64 (a := i + j) (b := 1)); exact rfl; exact rfl; omega)); exact rfl) | refine GO ?_ | (refine GOE ?_; (first | rintro _ _ ⟨rfl, rfl⟩ | rintro _ _ ⟨g, rfl, rfl⟩ | rintro _ _ ⟨A', c', rfl, rfl⟩)) | (refine GO2 ?_ ?_ <;> (refine Zs ?_; intro h; try exact Zx)) | fail)
  (refine At_ret Tryz.results294 rfl (fun w' hw => ?_))
  exact ⟨by simp [resVal], hw.below0 rfl⟩
set_option maxRecDepth 100000 in
theorem less_any (x y : Int) (w : World) : Calls Tryz.prog 253 #[.int .i64 x, .int .i64 y] w fun e w' => e = .returned (.bool (decide (x < y))) ∧ Below w.heap.size w w' := by
  refine calls_T (S := []) [] Tryz.func253 rfl Tryz.ntmps253 (by simp) (Mem.nil _) ?_
  repeat' (first | ((first | with_reducible (first | apply TL_q | apply TD_q0 | apply TD_q1 | apply TD_q2 | apply TD_q3) | ((with_reducible (first | apply TD_q0y | apply TD_q1y)); exact rfl; exact rfl; (with_reducible exact rfl))); (first | exact QS.auto | ((with_reducible apply QS_shrU64 (a := i + j) (b := 1)); exact rfl; exact rfl; omega)); exact rfl) | refine GO ?_ | (refine GOE ?_; (first | rintro _ _ ⟨rfl, rfl⟩ | rintro _ _ ⟨g, rfl, rfl⟩ | rintro _ _ ⟨A', c', rfl, rfl⟩)) | (refine GO2 ?_ ?_ <;> (refine Zs ?_; intro h; try exact Zx)) | ((with_reducible (first | apply TD_e2z | apply TD_e3z | apply TL_e | apply TD_e2 | apply TD_e3)); ((with_reducible apply ES_callV (f := 173)); exact rfl; (intro w hw; exact cNaN_any _ w); exact rfl); (first | exact rfl | exact ⟨rfl, rfl, rfl⟩); (rintro _ _ ⟨rfl, rfl⟩); (try refine ⟨SUB, ?_⟩)) | fail)
  (refine At_ret Tryz.results253 rfl (fun w' hw => ?_))
  exact ⟨rfl, hw.below0 rfl⟩
theorem pos_at {s : List Int} {a : Int} (hs : Asc s) : s.contains a = (decide (posI s a < s.length) && decide (s.getD (posI s a) 0 = a)) := by
  obtain ⟨p1, p2, p3⟩ := pos_split hs a
  rw [Bool.eq_iff_iff]
  simp only [Bool.and_eq_true, decide_eq_true_eq, List.contains_iff_mem]
  constructor
  · intro hm
    rw [← List.take_append_drop (posI s a) s, List.mem_append] at hm
    rcases hm with hm | hm
    · have := p1 a hm; omega
    · have hlt : posI s a < s.length := by
        rcases Nat.lt_or_ge (posI s a) s.length with h | h
        · exact h
        · rw [List.drop_eq_nil_of_le h] at hm; simp at hm
      refine ⟨hlt, ?_⟩
      rw [List.getD_eq_getElem?_getD, List.getElem?_eq_getElem hlt, Option.getD_some]
      have hd : s.drop (posI s a) = s[posI s a] :: s.drop (posI s a + 1) := List.drop_eq_getElem_cons hlt
      have h1 := p2 s[posI s a] (by rw [hd]; exact List.mem_cons_self)
      rw [hd] at hm
      rcases List.mem_cons.1 hm with h | h
      · exact h.symm
      · have hp : (s.drop (posI s a)).Pairwise (· < ·) := hs.sublist (List.drop_sublist _ _)
        rw [hd] at hp
        have := (List.pairwise_cons.1 hp).1 a h
        omega
  · rintro ⟨h1, h2⟩
    rw [List.getD_eq_getElem?_getD, List.getElem?_eq_getElem h1, Option.getD_some] at h2
    rw [← h2]; exact List.getElem_mem h1
section
variable (A : Option Addr) (c : Nat) (s : List Int) (a : Int) (w : World) (hA : RdInt w A s) (hl : s.length ≤ 1000) (hs : Asc s)
include hA hl hs
set_option maxRecDepth 100000 in
set_option maxHeartbeats 1000000 in
theorem search_any : Calls Tryz.prog 291 #[.slice A s.length c, .int .i64 a] w fun e w' => e = .returned (.tuple #[.int .i64 (posI s a), .bool (s.contains a)]) ∧ Below w.heap.size w w' := by
  refine calls_T (S := []) [] Tryz.func291 rfl Tryz.ntmps291 (by simp) (Mem.nil _) ?_
  repeat' (first | ((first | with_reducible (first | apply TL_q | apply TD_q0 | apply TD_q1 | apply TD_q2 | apply TD_q3) | ((with_reducible (first | apply TD_q0y | apply TD_q1y)); exact rfl; exact rfl; (with_reducible exact rfl))); (first | exact QS.auto | ((with_reducible apply QS_shrU64 (a := i + j) (b := 1)); exact rfl; exact rfl; omega)); exact rfl) | refine GO ?_ | (refine GOE ?_; (first | rintro _ _ ⟨rfl, rfl⟩ | rintro _ _ ⟨g, rfl, rfl⟩ | rintro _ _ ⟨A', c', rfl, rfl⟩)) | (refine GO2 ?_ ?_ <;> (refine Zs ?_; intro h; try exact Zx)) | fail)
  refine T_loop (X := Nat × Nat) (fun x => [(7, .int .i64 (x.1 : Nat)), (8, .int .i64 (x.2 : Nat)), (6, .int .i64 s.length), (1, .int .i64 a), (0, .slice A s.length c)]) (fun _ => [])
    (fun x => x.1 ≤ x.2 ∧ x.2 ≤ s.length ∧ (∀ j (hj : j < s.length), j < x.1 → s[j] < a) ∧ ∀ j (hj : j < s.length), x.2 ≤ j → a ≤ s[j]) (fun x => x.2 - x.1) (0, s.length) ⟨by simp, by simp, fun j hj h => by simp at h, fun j hj h => by simp at h; omega⟩ Ze (by exact SUBS) ?_
  rintro ⟨i, j⟩ ⟨hij, hjn, hlo, hhi⟩
  dsimp only at hij hjn hlo hhi ⊢
  by_cases hlt : i < j
  · obtain ⟨b, o, rfl, _⟩ := RdE.open hA (by omega)
    have eh : (i + j) >>> 1 = (i + j) / 2 := by rw [Nat.shiftRight_eq_div_pow]
    have hh1 : (i + j) >>> 1 < s.length := by omega
    have hmid : i ≤ (i + j) >>> 1 ∧ (i + j) >>> 1 < j := by omega
    repeat' (first | ((first | with_reducible (first | apply TL_q | apply TD_q0 | apply TD_q1 | apply TD_q2 | apply TD_q3) | ((with_reducible (first | apply TD_q0y | apply TD_q1y)); exact rfl; exact rfl; (with_reducible exact rfl))); (first | exact QS.auto | ((with_reducible apply QS_shrU64 (a := i + j) (b := 1)); exact rfl; exact rfl; omega)); exact rfl) | refine GO ?_ | (refine GOE ?_; (first | rintro _ _ ⟨rfl, rfl⟩ | rintro _ _ ⟨g, rfl, rfl⟩ | rintro _ _ ⟨A', c', rfl, rfl⟩)) | (refine GO2 ?_ ?_ <;> (refine Zs ?_; intro h; try exact Zx)) | ((with_reducible (first | apply TD_e2z | apply TD_e3z | apply TL_e | apply TD_e2 | apply TD_e3)); ((with_reducible apply ES_callV (f := 253)); exact rfl; (intro w hw; exact less_any _ _ w); exact rfl); (first | exact rfl | exact ⟨rfl, rfl, rfl⟩); (rintro _ _ ⟨rfl, rfl⟩); (try refine ⟨SUB, ?_⟩)) | fail)
    · have h0 : s[((i + j) >>> 1)] < a := ‹s[((i + j) >>> 1)] < a›
      refine At_rounds (((i + j) >>> 1) + 1, j) ⟨by (try dsimp only); omega, hjn, fun k hk hkl => ?_, hhi⟩ (by (try dsimp only); omega) Ze (by exact SUBS)
      dsimp only at hkl
      by_cases e : k = ((i + j) >>> 1)
      · simp only [e]; exact h0
      · have := (List.pairwise_iff_getElem.1 hs) k ((i + j) >>> 1) hk hh1 (by omega)
        omega
    · have h0 : a ≤ s[((i + j) >>> 1)] := ‹a ≤ s[((i + j) >>> 1)]›
      refine At_rounds (i, ((i + j) >>> 1)) ⟨by (try dsimp only); omega, by (try dsimp only); omega, hlo, fun k hk hkl => ?_⟩ (by (try dsimp only); omega) Ze (by exact SUBS)
      dsimp only at hkl
      by_cases e : k = ((i + j) >>> 1)
      · simp only [e]; exact h0
      · have := (List.pairwise_iff_getElem.1 hs) ((i + j) >>> 1) k hh1 hk (by omega)
        omega
  · obtain rfl : i = j := by omega
    have hp := pos_of (by omega) hlo hhi
    have hc := pos_at (a := a) hs
    rw [hp] at hc ⊢
    by_cases hin : i < s.length
    · obtain ⟨b, o, rfl, _⟩ := RdE.open hA (by omega)
      rw [List.getD_eq_getElem?_getD, List.getElem?_eq_getElem hin, Option.getD_some] at hc
      repeat' (first | ((first | with_reducible (first | apply TL_q | apply TD_q0 | apply TD_q1 | apply TD_q2 | apply TD_q3) | ((with_reducible (first | apply TD_q0y | apply TD_q1y)); exact rfl; exact rfl; (with_reducible exact rfl))); (first | exact QS.auto | ((with_reducible apply QS_shrU64 (a := i + j) (b := 1)); exact rfl; exact rfl; omega)); exact rfl) | refine GO ?_ | (refine GOE ?_; (first | rintro _ _ ⟨rfl, rfl⟩ | rintro _ _ ⟨g, rfl, rfl⟩ | rintro _ _ ⟨A', c', rfl, rfl⟩)) | (refine GO2 ?_ ?_ <;> (refine Zs ?_; intro h; try exact Zx)) | ((with_reducible (first | apply TD_e2z | apply TD_e3z | apply TL_e | apply TD_e2 | apply TD_e3)); ((with_reducible apply ES_callV (f := 294)); exact rfl; (intro w hw; exact sNaN_any _ w); exact rfl); (first | exact rfl | exact ⟨rfl, rfl, rfl⟩); (rintro _ _ ⟨rfl, rfl⟩); (try refine ⟨SUB, ?_⟩)) | fail)
      all_goals (refine At_ret Tryz.results291 rfl (fun w' hw => ?_))
      all_goals refine ⟨?_, hw.below0 rfl⟩
      · rw [hc, decide_eq_true hin, decide_eq_true ‹s[i] = a›]; rfl
      · rw [hc, decide_eq_true hin, decide_eq_false ‹¬ s[i] = a›]; rfl
    · repeat' (first | ((first | with_reducible (first | apply TL_q | apply TD_q0 | apply TD_q1 | apply TD_q2 | apply TD_q3) | ((with_reducible (first | apply TD_q0y | apply TD_q1y)); exact rfl; exact rfl; (with_reducible exact rfl))); (first | exact QS.auto | ((with_reducible apply QS_shrU64 (a := i + j) (b := 1)); exact rfl; exact rfl; omega)); exact rfl) | refine GO ?_ | (refine GOE ?_; (first | rintro _ _ ⟨rfl, rfl⟩ | rintro _ _ ⟨g, rfl, rfl⟩ | rintro _ _ ⟨A', c', rfl, rfl⟩)) | (refine GO2 ?_ ?_ <;> (refine Zs ?_; intro h; try exact Zx)) | fail)
      (refine At_ret Tryz.results291 rfl (fun w' hw => ?_))
      exact ⟨by rw [hc, decide_eq_false hin]; rfl, hw.below0 rfl⟩
end
end Go.Proofs.YtjdckepbihcgfaaGreatDoor
