/- Lemmas for the walks (Obj7, ObjB, ObjC, ObjP). No condition. -/
import Derived.Test.YtaonijdhmgcbjaaG13
import Derived.Test.YtaonijdhmgcbjaaG14
import Derived.Test.YtaonijdhmgcbjaaG10
set_option linter.unusedSimpArgs false
set_option linter.unusedVariables false
set_option linter.unusedSectionVars false
set_option linter.unnecessarySimpa false
namespace Go.Proofs.Ytaonijdhmgcbjaa
open Go.RowKit

def stepO (typ : Int) (s : List Int) (kind a : Int) : Res := if chkS typ s = 0 then (if ((kindsL typ).contains kind && argB kind a) = true then stepP typ s kind a else ([], 0, 3)) else ([], 0, chkS typ s)
theorem kinds_fit {typ kind : Int} (h : (kindsL typ).contains kind = true) : fitB typ kind := by
  unfold kindsL at h
  unfold fitB
  repeat' split at h
  all_goals (simp only [List.contains_cons, List.contains_nil, Bool.or_eq_true, beq_iff_eq, Bool.false_eq_true, or_false] at h; try omega)
section
variable (A : Option Addr) (c : Nat) (s : List Int) (typ kind a : Int) (w : World) (hA : RdInt w A s) (hl : s.length ≤ 9223372036854775807)
include hA hl
set_option maxRecDepth 100000 in
set_option maxHeartbeats 8000000 in
theorem objStep_any : Calls Try.prog 126 #[.int .i64 typ, .slice A s.length c, .int .i64 kind, .int .i64 a] w fun e w' => ∃ A' c', e = .returned (stepV (stepO typ s kind a) (A', c')) ∧ Own intEnc 1 3 w' w.heap.size (.slice A' (stepO typ s kind a).1.length c') (stepO typ s kind a).1 ∧ Below w.heap.size w w' := by
  have hchk := fun w hA => objCheck_any A c s w hA hl typ
  have hfit := fun w => fits_C typ kind w
  have harg := fun w => argument_C kind a w
  by_cases h0 : chkS typ s = 0
  · have hck := chkS_ok h0
    have hcl := fun w hA => clone_any A c s w hA (by omega)
    have hO : stepO typ s kind a = if ((kindsL typ).contains kind && argB kind a) = true then stepP typ s kind a else ([], 0, 3) := by unfold stepO; rw [if_pos h0]
    rw [hO]
    rw [h0] at hchk
    clear hO
    generalize hz1 : (kindsL typ).contains kind = z1 at *
    generalize hz2 : argB kind a = z2 at *
    by_cases hz : (z1 && z2) = true
    · rw [if_pos hz]
      obtain ⟨rfl, rfl⟩ : z1 = true ∧ z2 = true := by rwa [Bool.and_eq_true] at hz
      have hfb := kinds_fit hz1
      have hRl : (stepP typ s kind a).1.length ≤ 1000 := by
        by_cases he : (stepP typ s kind a).2.2 = 0
        · have := (chkS_ok (step_valid h0 hfb hz2 he)).2.1; omega
        · have := step_bad he
          rw [this]; simp
      rcases typ_cases typ with rfl | rfl | rfl | rfl | rfl | ⟨hb, hv⟩
      · have hof := fun w => of_any 1 w
        rw [show obV 1 = .iface 216 (.agg #[]) from rfl] at hof
        have hstep := fun A c w h => registerStep A c s kind a w hck.2.2 hck.2.1 h
        generalize stepP 1 s kind a = R at *
        refine calls_T (S := []) [] Try.func126 rfl Try.ntmps126 (by simp) (Mem.nil _) ?_
        repeat' (first | ((first | with_reducible (first | apply TL_q | apply TD_q0 | apply TD_q1 | apply TD_q2 | apply TD_q3) | ((with_reducible (first | apply TD_q0y | apply TD_q1y)); exact rfl; exact rfl; (with_reducible exact rfl))); (first | (first | ((with_reducible apply QS_makeInterface); exact rfl) | ((with_reducible apply QS_ifaceSome); exact rfl; exact rfl) | ((with_reducible apply QS_ifaceNil); exact rfl; exact rfl) | ((with_reducible apply QS_fieldZ); exact rfl; (first | ((repeat (first | with_reducible exact List.mem_cons_self | with_reducible apply List.mem_cons_of_mem)); done) | (repeat (first | exact List.Mem.head _ | apply List.Mem.tail)))) | ((with_reducible apply QS_load); exact rfl; exact Lds.zero _) | exact QS.auto) | ((with_reducible apply QS_nilCheckM); exact rfl; (intro w; kernel_rfl))); exact rfl) | (refine GG ?_) | (refine GE ?_; (first | (rintro _ _ ⟨rfl, rfl⟩) | (rintro _ _ ⟨g, rfl, rfl⟩) | (rintro _ _ ⟨A', c', rfl, rfl⟩)); (try refine ⟨SUB, ?_⟩)) | ((refine GO2 ?_ ?_) <;> intro h <;> (try (repeat (first | with_reducible (replace h := of_decide_eq_true h) | with_reducible (replace h := of_decide_eq_false h) | with_reducible (replace h := bnt h) | with_reducible (replace h := bnf h) | with_reducible (replace h := Int.not_lt.mp h) | with_reducible (replace h := Int.not_le.mp h) | with_reducible (replace h := band_dec h) | with_reducible (replace h := band_decF h) | with_reducible (replace h := bor_dec h) | with_reducible (replace h := bor_decF h)))) <;> (try (exfalso; first | contradiction | omega))) | (refine GOF ?_ ?_) | ((with_reducible apply T_draw (id := 6) 1000 (OT.seq [(0, 0), (0, 2), (0, 4), (0, 5), (2, 1), (0, 6), (0, 7), (0, 8), (2, 3), (2, 9), (0, 10), (0, 11), (0, 12), (0, 13), (0, 14), (0, 15), (0, 16)] .nil)); kernel_rfl; exact rfl; kernel_rfl; (repeat (first | with_reducible exact Blind.body | with_reducible apply Blind.seq | with_reducible apply Blind.block))) | ((with_reducible (first | apply TD_e2z | apply TD_e3z | apply TL_e | apply TD_e2 | apply TD_e3)); ((with_reducible apply ES_callV (f := 129)); exact rfl; (intro w hw; exact hchk w (hw.rd rfl hA)); exact rfl); (first | exact rfl | exact ⟨rfl, rfl, rfl⟩); (rintro _ _ ⟨rfl, rfl⟩); (try refine ⟨SUB, ?_⟩)) | ((with_reducible (first | apply TD_e2z | apply TD_e3z | apply TL_e | apply TD_e2 | apply TD_e3)); ((with_reducible apply ES_callV (f := 78)); exact rfl; (intro w hw; exact hfit w); exact rfl); (first | exact rfl | exact ⟨rfl, rfl, rfl⟩); (rintro _ _ ⟨rfl, rfl⟩); (try refine ⟨SUB, ?_⟩)) | ((with_reducible (first | apply TD_e2z | apply TD_e3z | apply TL_e | apply TD_e2 | apply TD_e3)); ((with_reducible apply ES_callV (f := 79)); exact rfl; (intro w hw; exact harg w); exact rfl); (first | exact rfl | exact ⟨rfl, rfl, rfl⟩); (rintro _ _ ⟨rfl, rfl⟩); (try refine ⟨SUB, ?_⟩)) | ((with_reducible (first | apply TD_e2z | apply TD_e3z | apply TL_e | apply TD_e2 | apply TD_e3)); ((with_reducible apply ES_callV (f := 114)); exact rfl; (intro w hw; exact hof w); exact rfl); (first | exact rfl | exact ⟨rfl, rfl, rfl⟩); (rintro _ _ ⟨rfl, rfl⟩); (try refine ⟨SUB, ?_⟩)) | ((with_reducible (first | apply TD_e2z | apply TD_e3z | apply TL_e | apply TD_e2 | apply TD_e3)); ((with_reducible apply ES_callOwn (f := 130)); exact rfl; (intro w hw; exact hcl w (hw.rd rfl hA)); exact rfl); (first | exact rfl | exact ⟨rfl, rfl, rfl⟩); (rintro _ _ ⟨A1, c1, rfl, rfl⟩); (try refine ⟨SUB, ?_⟩)) | ((with_reducible (first | apply TD_e2z | apply TD_e3z | apply TL_e | apply TD_e2 | apply TD_e3)); ((with_reducible apply ES_invokeX (f := 148) (r := .agg #[]) (X := Option Addr × Nat) (S1 := [entOwn intEnc 1 3 A1 c1 s]) (stepV R) (fun x => [entRd intEnc 1 x.1 R.1])); exact rfl; exact ⟨fun w => by kernel_rfl⟩; exact rfl; ((repeat (first | exact Pull.nil _ | (apply Pull.cons; (repeat (first | with_reducible exact Pick.here _ _ | with_reducible apply Pick.there)))))); (intro x; (try dsimp only); repeat (first | exact AppL.nil _ | apply AppL.cons)); (intro w hw; exact hstep A1 c1 w ((hw.anyN 0).self 0)); exact rfl); (first | exact rfl | exact ⟨rfl, rfl, rfl⟩); (rintro _ _ ⟨⟨A', c'⟩, rfl, rfl⟩); (try refine ⟨SUB, ?_⟩)) | ((with_reducible (first | apply TD_e2z | apply TD_e3z | apply TL_e | apply TD_e2 | apply TD_e3)); ((with_reducible apply ES_callOwn (f := 130)); exact rfl; (intro w hw; exact clone_any _ _ R.1 w (hw.rdIn (by first | ((repeat (first | with_reducible exact List.mem_cons_self | with_reducible apply List.mem_cons_of_mem)); done) | (repeat (first | exact List.Mem.head _ | apply List.Mem.tail)))) hRl); exact rfl); (first | exact rfl | exact ⟨rfl, rfl, rfl⟩); (rintro _ _ ⟨A2, c2, rfl, rfl⟩); (try refine ⟨SUB, ?_⟩)) | fail)
        (refine At_ret Try.results126 rfl (fun w' hw => ?_))
        exact ⟨A2, c2, rfl, hw.ownOut rfl (by first | ((repeat (first | with_reducible exact List.mem_cons_self | with_reducible apply List.mem_cons_of_mem)); done) | (repeat (first | exact List.Mem.head _ | apply List.Mem.tail))), hw.below0 rfl⟩
      · have hof := fun w => of_any 2 w
        rw [show obV 2 = .iface 219 (.agg #[]) from rfl] at hof
        have hstep := fun A c w h => queueStep A c s kind a w hck.2.2 hck.2.1 h
        generalize stepP 2 s kind a = R at *
        refine calls_T (S := []) [] Try.func126 rfl Try.ntmps126 (by simp) (Mem.nil _) ?_
        repeat' (first | ((first | with_reducible (first | apply TL_q | apply TD_q0 | apply TD_q1 | apply TD_q2 | apply TD_q3) | ((with_reducible (first | apply TD_q0y | apply TD_q1y)); exact rfl; exact rfl; (with_reducible exact rfl))); (first | (first | ((with_reducible apply QS_makeInterface); exact rfl) | ((with_reducible apply QS_ifaceSome); exact rfl; exact rfl) | ((with_reducible apply QS_ifaceNil); exact rfl; exact rfl) | ((with_reducible apply QS_fieldZ); exact rfl; (first | ((repeat (first | with_reducible exact List.mem_cons_self | with_reducible apply List.mem_cons_of_mem)); done) | (repeat (first | exact List.Mem.head _ | apply List.Mem.tail)))) | ((with_reducible apply QS_load); exact rfl; exact Lds.zero _) | exact QS.auto) | ((with_reducible apply QS_nilCheckM); exact rfl; (intro w; kernel_rfl))); exact rfl) | (refine GG ?_) | (refine GE ?_; (first | (rintro _ _ ⟨rfl, rfl⟩) | (rintro _ _ ⟨g, rfl, rfl⟩) | (rintro _ _ ⟨A', c', rfl, rfl⟩)); (try refine ⟨SUB, ?_⟩)) | ((refine GO2 ?_ ?_) <;> intro h <;> (try (repeat (first | with_reducible (replace h := of_decide_eq_true h) | with_reducible (replace h := of_decide_eq_false h) | with_reducible (replace h := bnt h) | with_reducible (replace h := bnf h) | with_reducible (replace h := Int.not_lt.mp h) | with_reducible (replace h := Int.not_le.mp h) | with_reducible (replace h := band_dec h) | with_reducible (replace h := band_decF h) | with_reducible (replace h := bor_dec h) | with_reducible (replace h := bor_decF h)))) <;> (try (exfalso; first | contradiction | omega))) | (refine GOF ?_ ?_) | ((with_reducible apply T_draw (id := 6) 1000 (OT.seq [(0, 0), (0, 2), (0, 4), (0, 5), (2, 1), (0, 6), (0, 7), (0, 8), (2, 3), (2, 9), (0, 10), (0, 11), (0, 12), (0, 13), (0, 14), (0, 15), (0, 16)] .nil)); kernel_rfl; exact rfl; kernel_rfl; (repeat (first | with_reducible exact Blind.body | with_reducible apply Blind.seq | with_reducible apply Blind.block))) | ((with_reducible (first | apply TD_e2z | apply TD_e3z | apply TL_e | apply TD_e2 | apply TD_e3)); ((with_reducible apply ES_callV (f := 129)); exact rfl; (intro w hw; exact hchk w (hw.rd rfl hA)); exact rfl); (first | exact rfl | exact ⟨rfl, rfl, rfl⟩); (rintro _ _ ⟨rfl, rfl⟩); (try refine ⟨SUB, ?_⟩)) | ((with_reducible (first | apply TD_e2z | apply TD_e3z | apply TL_e | apply TD_e2 | apply TD_e3)); ((with_reducible apply ES_callV (f := 78)); exact rfl; (intro w hw; exact hfit w); exact rfl); (first | exact rfl | exact ⟨rfl, rfl, rfl⟩); (rintro _ _ ⟨rfl, rfl⟩); (try refine ⟨SUB, ?_⟩)) | ((with_reducible (first | apply TD_e2z | apply TD_e3z | apply TL_e | apply TD_e2 | apply TD_e3)); ((with_reducible apply ES_callV (f := 79)); exact rfl; (intro w hw; exact harg w); exact rfl); (first | exact rfl | exact ⟨rfl, rfl, rfl⟩); (rintro _ _ ⟨rfl, rfl⟩); (try refine ⟨SUB, ?_⟩)) | ((with_reducible (first | apply TD_e2z | apply TD_e3z | apply TL_e | apply TD_e2 | apply TD_e3)); ((with_reducible apply ES_callV (f := 114)); exact rfl; (intro w hw; exact hof w); exact rfl); (first | exact rfl | exact ⟨rfl, rfl, rfl⟩); (rintro _ _ ⟨rfl, rfl⟩); (try refine ⟨SUB, ?_⟩)) | ((with_reducible (first | apply TD_e2z | apply TD_e3z | apply TL_e | apply TD_e2 | apply TD_e3)); ((with_reducible apply ES_callOwn (f := 130)); exact rfl; (intro w hw; exact hcl w (hw.rd rfl hA)); exact rfl); (first | exact rfl | exact ⟨rfl, rfl, rfl⟩); (rintro _ _ ⟨A1, c1, rfl, rfl⟩); (try refine ⟨SUB, ?_⟩)) | ((with_reducible (first | apply TD_e2z | apply TD_e3z | apply TL_e | apply TD_e2 | apply TD_e3)); ((with_reducible apply ES_invokeX (f := 152) (r := .agg #[]) (X := Option Addr × Nat) (S1 := [entOwn intEnc 1 3 A1 c1 s]) (stepV R) (fun x => [entRd intEnc 1 x.1 R.1])); exact rfl; exact ⟨fun w => by kernel_rfl⟩; exact rfl; ((repeat (first | exact Pull.nil _ | (apply Pull.cons; (repeat (first | with_reducible exact Pick.here _ _ | with_reducible apply Pick.there)))))); (intro x; (try dsimp only); repeat (first | exact AppL.nil _ | apply AppL.cons)); (intro w hw; exact hstep A1 c1 w ((hw.anyN 0).self 0)); exact rfl); (first | exact rfl | exact ⟨rfl, rfl, rfl⟩); (rintro _ _ ⟨⟨A', c'⟩, rfl, rfl⟩); (try refine ⟨SUB, ?_⟩)) | ((with_reducible (first | apply TD_e2z | apply TD_e3z | apply TL_e | apply TD_e2 | apply TD_e3)); ((with_reducible apply ES_callOwn (f := 130)); exact rfl; (intro w hw; exact clone_any _ _ R.1 w (hw.rdIn (by first | ((repeat (first | with_reducible exact List.mem_cons_self | with_reducible apply List.mem_cons_of_mem)); done) | (repeat (first | exact List.Mem.head _ | apply List.Mem.tail)))) hRl); exact rfl); (first | exact rfl | exact ⟨rfl, rfl, rfl⟩); (rintro _ _ ⟨A2, c2, rfl, rfl⟩); (try refine ⟨SUB, ?_⟩)) | fail)
        (refine At_ret Try.results126 rfl (fun w' hw => ?_))
        exact ⟨A2, c2, rfl, hw.ownOut rfl (by first | ((repeat (first | with_reducible exact List.mem_cons_self | with_reducible apply List.mem_cons_of_mem)); done) | (repeat (first | exact List.Mem.head _ | apply List.Mem.tail))), hw.below0 rfl⟩
      · have hof := fun w => of_any 3 w
        rw [show obV 3 = .iface 220 (.agg #[]) from rfl] at hof
        have hstep := fun A c w h => stackStep A c s kind a w hck.2.2 hck.2.1 h
        generalize stepP 3 s kind a = R at *
        refine calls_T (S := []) [] Try.func126 rfl Try.ntmps126 (by simp) (Mem.nil _) ?_
        repeat' (first | ((first | with_reducible (first | apply TL_q | apply TD_q0 | apply TD_q1 | apply TD_q2 | apply TD_q3) | ((with_reducible (first | apply TD_q0y | apply TD_q1y)); exact rfl; exact rfl; (with_reducible exact rfl))); (first | (first | ((with_reducible apply QS_makeInterface); exact rfl) | ((with_reducible apply QS_ifaceSome); exact rfl; exact rfl) | ((with_reducible apply QS_ifaceNil); exact rfl; exact rfl) | ((with_reducible apply QS_fieldZ); exact rfl; (first | ((repeat (first | with_reducible exact List.mem_cons_self | with_reducible apply List.mem_cons_of_mem)); done) | (repeat (first | exact List.Mem.head _ | apply List.Mem.tail)))) | ((with_reducible apply QS_load); exact rfl; exact Lds.zero _) | exact QS.auto) | ((with_reducible apply QS_nilCheckM); exact rfl; (intro w; kernel_rfl))); exact rfl) | (refine GG ?_) | (refine GE ?_; (first | (rintro _ _ ⟨rfl, rfl⟩) | (rintro _ _ ⟨g, rfl, rfl⟩) | (rintro _ _ ⟨A', c', rfl, rfl⟩)); (try refine ⟨SUB, ?_⟩)) | ((refine GO2 ?_ ?_) <;> intro h <;> (try (repeat (first | with_reducible (replace h := of_decide_eq_true h) | with_reducible (replace h := of_decide_eq_false h) | with_reducible (replace h := bnt h) | with_reducible (replace h := bnf h) | with_reducible (replace h := Int.not_lt.mp h) | with_reducible (replace h := Int.not_le.mp h) | with_reducible (replace h := band_dec h) | with_reducible (replace h := band_decF h) | with_reducible (replace h := bor_dec h) | with_reducible (replace h := bor_decF h)))) <;> (try (exfalso; first | contradiction | omega))) | (refine GOF ?_ ?_) | ((with_reducible apply T_draw (id := 6) 1000 (OT.seq [(0, 0), (0, 2), (0, 4), (0, 5), (2, 1), (0, 6), (0, 7), (0, 8), (2, 3), (2, 9), (0, 10), (0, 11), (0, 12), (0, 13), (0, 14), (0, 15), (0, 16)] .nil)); kernel_rfl; exact rfl; kernel_rfl; (repeat (first | with_reducible exact Blind.body | with_reducible apply Blind.seq | with_reducible apply Blind.block))) | ((with_reducible (first | apply TD_e2z | apply TD_e3z | apply TL_e | apply TD_e2 | apply TD_e3)); ((with_reducible apply ES_callV (f := 129)); exact rfl; (intro w hw; exact hchk w (hw.rd rfl hA)); exact rfl); (first | exact rfl | exact ⟨rfl, rfl, rfl⟩); (rintro _ _ ⟨rfl, rfl⟩); (try refine ⟨SUB, ?_⟩)) | ((with_reducible (first | apply TD_e2z | apply TD_e3z | apply TL_e | apply TD_e2 | apply TD_e3)); ((with_reducible apply ES_callV (f := 78)); exact rfl; (intro w hw; exact hfit w); exact rfl); (first | exact rfl | exact ⟨rfl, rfl, rfl⟩); (rintro _ _ ⟨rfl, rfl⟩); (try refine ⟨SUB, ?_⟩)) | ((with_reducible (first | apply TD_e2z | apply TD_e3z | apply TL_e | apply TD_e2 | apply TD_e3)); ((with_reducible apply ES_callV (f := 79)); exact rfl; (intro w hw; exact harg w); exact rfl); (first | exact rfl | exact ⟨rfl, rfl, rfl⟩); (rintro _ _ ⟨rfl, rfl⟩); (try refine ⟨SUB, ?_⟩)) | ((with_reducible (first | apply TD_e2z | apply TD_e3z | apply TL_e | apply TD_e2 | apply TD_e3)); ((with_reducible apply ES_callV (f := 114)); exact rfl; (intro w hw; exact hof w); exact rfl); (first | exact rfl | exact ⟨rfl, rfl, rfl⟩); (rintro _ _ ⟨rfl, rfl⟩); (try refine ⟨SUB, ?_⟩)) | ((with_reducible (first | apply TD_e2z | apply TD_e3z | apply TL_e | apply TD_e2 | apply TD_e3)); ((with_reducible apply ES_callOwn (f := 130)); exact rfl; (intro w hw; exact hcl w (hw.rd rfl hA)); exact rfl); (first | exact rfl | exact ⟨rfl, rfl, rfl⟩); (rintro _ _ ⟨A1, c1, rfl, rfl⟩); (try refine ⟨SUB, ?_⟩)) | ((with_reducible (first | apply TD_e2z | apply TD_e3z | apply TL_e | apply TD_e2 | apply TD_e3)); ((with_reducible apply ES_invokeX (f := 154) (r := .agg #[]) (X := Option Addr × Nat) (S1 := [entOwn intEnc 1 3 A1 c1 s]) (stepV R) (fun x => [entRd intEnc 1 x.1 R.1])); exact rfl; exact ⟨fun w => by kernel_rfl⟩; exact rfl; ((repeat (first | exact Pull.nil _ | (apply Pull.cons; (repeat (first | with_reducible exact Pick.here _ _ | with_reducible apply Pick.there)))))); (intro x; (try dsimp only); repeat (first | exact AppL.nil _ | apply AppL.cons)); (intro w hw; exact hstep A1 c1 w ((hw.anyN 0).self 0)); exact rfl); (first | exact rfl | exact ⟨rfl, rfl, rfl⟩); (rintro _ _ ⟨⟨A', c'⟩, rfl, rfl⟩); (try refine ⟨SUB, ?_⟩)) | ((with_reducible (first | apply TD_e2z | apply TD_e3z | apply TL_e | apply TD_e2 | apply TD_e3)); ((with_reducible apply ES_callOwn (f := 130)); exact rfl; (intro w hw; exact clone_any _ _ R.1 w (hw.rdIn (by first | ((repeat (first | with_reducible exact List.mem_cons_self | with_reducible apply List.mem_cons_of_mem)); done) | (repeat (first | exact List.Mem.head _ | apply List.Mem.tail)))) hRl); exact rfl); (first | exact rfl | exact ⟨rfl, rfl, rfl⟩); (rintro _ _ ⟨A2, c2, rfl, rfl⟩); (try refine ⟨SUB, ?_⟩)) | fail)
        (refine At_ret Try.results126 rfl (fun w' hw => ?_))
        exact ⟨A2, c2, rfl, hw.ownOut rfl (by first | ((repeat (first | with_reducible exact List.mem_cons_self | with_reducible apply List.mem_cons_of_mem)); done) | (repeat (first | exact List.Mem.head _ | apply List.Mem.tail))), hw.below0 rfl⟩
      · have hof := fun w => of_any 4 w
        rw [show obV 4 = .iface 221 (.agg #[]) from rfl] at hof
        have hstep := fun A c w h => setStep_any A c s kind a w hck.2.2 hck.2.1 h
        generalize stepP 4 s kind a = R at *
        refine calls_T (S := []) [] Try.func126 rfl Try.ntmps126 (by simp) (Mem.nil _) ?_
        repeat' (first | ((first | with_reducible (first | apply TL_q | apply TD_q0 | apply TD_q1 | apply TD_q2 | apply TD_q3) | ((with_reducible (first | apply TD_q0y | apply TD_q1y)); exact rfl; exact rfl; (with_reducible exact rfl))); (first | (first | ((with_reducible apply QS_makeInterface); exact rfl) | ((with_reducible apply QS_ifaceSome); exact rfl; exact rfl) | ((with_reducible apply QS_ifaceNil); exact rfl; exact rfl) | ((with_reducible apply QS_fieldZ); exact rfl; (first | ((repeat (first | with_reducible exact List.mem_cons_self | with_reducible apply List.mem_cons_of_mem)); done) | (repeat (first | exact List.Mem.head _ | apply List.Mem.tail)))) | ((with_reducible apply QS_load); exact rfl; exact Lds.zero _) | exact QS.auto) | ((with_reducible apply QS_nilCheckM); exact rfl; (intro w; kernel_rfl))); exact rfl) | (refine GG ?_) | (refine GE ?_; (first | (rintro _ _ ⟨rfl, rfl⟩) | (rintro _ _ ⟨g, rfl, rfl⟩) | (rintro _ _ ⟨A', c', rfl, rfl⟩)); (try refine ⟨SUB, ?_⟩)) | ((refine GO2 ?_ ?_) <;> intro h <;> (try (repeat (first | with_reducible (replace h := of_decide_eq_true h) | with_reducible (replace h := of_decide_eq_false h) | with_reducible (replace h := bnt h) | with_reducible (replace h := bnf h) | with_reducible (replace h := Int.not_lt.mp h) | with_reducible (replace h := Int.not_le.mp h) | with_reducible (replace h := band_dec h) | with_reducible (replace h := band_decF h) | with_reducible (replace h := bor_dec h) | with_reducible (replace h := bor_decF h)))) <;> (try (exfalso; first | contradiction | omega))) | (refine GOF ?_ ?_) | ((with_reducible apply T_draw (id := 6) 1000 (OT.seq [(0, 0), (0, 2), (0, 4), (0, 5), (2, 1), (0, 6), (0, 7), (0, 8), (2, 3), (2, 9), (0, 10), (0, 11), (0, 12), (0, 13), (0, 14), (0, 15), (0, 16)] .nil)); kernel_rfl; exact rfl; kernel_rfl; (repeat (first | with_reducible exact Blind.body | with_reducible apply Blind.seq | with_reducible apply Blind.block))) | ((with_reducible (first | apply TD_e2z | apply TD_e3z | apply TL_e | apply TD_e2 | apply TD_e3)); ((with_reducible apply ES_callV (f := 129)); exact rfl; (intro w hw; exact hchk w (hw.rd rfl hA)); exact rfl); (first | exact rfl | exact ⟨rfl, rfl, rfl⟩); (rintro _ _ ⟨rfl, rfl⟩); (try refine ⟨SUB, ?_⟩)) | ((with_reducible (first | apply TD_e2z | apply TD_e3z | apply TL_e | apply TD_e2 | apply TD_e3)); ((with_reducible apply ES_callV (f := 78)); exact rfl; (intro w hw; exact hfit w); exact rfl); (first | exact rfl | exact ⟨rfl, rfl, rfl⟩); (rintro _ _ ⟨rfl, rfl⟩); (try refine ⟨SUB, ?_⟩)) | ((with_reducible (first | apply TD_e2z | apply TD_e3z | apply TL_e | apply TD_e2 | apply TD_e3)); ((with_reducible apply ES_callV (f := 79)); exact rfl; (intro w hw; exact harg w); exact rfl); (first | exact rfl | exact ⟨rfl, rfl, rfl⟩); (rintro _ _ ⟨rfl, rfl⟩); (try refine ⟨SUB, ?_⟩)) | ((with_reducible (first | apply TD_e2z | apply TD_e3z | apply TL_e | apply TD_e2 | apply TD_e3)); ((with_reducible apply ES_callV (f := 114)); exact rfl; (intro w hw; exact hof w); exact rfl); (first | exact rfl | exact ⟨rfl, rfl, rfl⟩); (rintro _ _ ⟨rfl, rfl⟩); (try refine ⟨SUB, ?_⟩)) | ((with_reducible (first | apply TD_e2z | apply TD_e3z | apply TL_e | apply TD_e2 | apply TD_e3)); ((with_reducible apply ES_callOwn (f := 130)); exact rfl; (intro w hw; exact hcl w (hw.rd rfl hA)); exact rfl); (first | exact rfl | exact ⟨rfl, rfl, rfl⟩); (rintro _ _ ⟨A1, c1, rfl, rfl⟩); (try refine ⟨SUB, ?_⟩)) | ((with_reducible (first | apply TD_e2z | apply TD_e3z | apply TL_e | apply TD_e2 | apply TD_e3)); ((with_reducible apply ES_invokeX (f := 155) (r := .agg #[]) (X := Option Addr × Nat) (S1 := [entOwn intEnc 1 3 A1 c1 s]) (stepV R) (fun x => [entRd intEnc 1 x.1 R.1])); exact rfl; exact ⟨fun w => by kernel_rfl⟩; exact rfl; ((repeat (first | exact Pull.nil _ | (apply Pull.cons; (repeat (first | with_reducible exact Pick.here _ _ | with_reducible apply Pick.there)))))); (intro x; (try dsimp only); repeat (first | exact AppL.nil _ | apply AppL.cons)); (intro w hw; exact hstep A1 c1 w ((hw.anyN 0).self 0)); exact rfl); (first | exact rfl | exact ⟨rfl, rfl, rfl⟩); (rintro _ _ ⟨⟨A', c'⟩, rfl, rfl⟩); (try refine ⟨SUB, ?_⟩)) | ((with_reducible (first | apply TD_e2z | apply TD_e3z | apply TL_e | apply TD_e2 | apply TD_e3)); ((with_reducible apply ES_callOwn (f := 130)); exact rfl; (intro w hw; exact clone_any _ _ R.1 w (hw.rdIn (by first | ((repeat (first | with_reducible exact List.mem_cons_self | with_reducible apply List.mem_cons_of_mem)); done) | (repeat (first | exact List.Mem.head _ | apply List.Mem.tail)))) hRl); exact rfl); (first | exact rfl | exact ⟨rfl, rfl, rfl⟩); (rintro _ _ ⟨A2, c2, rfl, rfl⟩); (try refine ⟨SUB, ?_⟩)) | fail)
        (refine At_ret Try.results126 rfl (fun w' hw => ?_))
        exact ⟨A2, c2, rfl, hw.ownOut rfl (by first | ((repeat (first | with_reducible exact List.mem_cons_self | with_reducible apply List.mem_cons_of_mem)); done) | (repeat (first | exact List.Mem.head _ | apply List.Mem.tail))), hw.below0 rfl⟩
      · have hof := fun w => of_any 5 w
        rw [show obV 5 = .iface 222 (.agg #[]) from rfl] at hof
        have hstep := fun A c w h => ticketStep A c s kind a w hck.2.2 hck.2.1 h
        generalize stepP 5 s kind a = R at *
        refine calls_T (S := []) [] Try.func126 rfl Try.ntmps126 (by simp) (Mem.nil _) ?_
        repeat' (first | ((first | with_reducible (first | apply TL_q | apply TD_q0 | apply TD_q1 | apply TD_q2 | apply TD_q3) | ((with_reducible (first | apply TD_q0y | apply TD_q1y)); exact rfl; exact rfl; (with_reducible exact rfl))); (first | (first | ((with_reducible apply QS_makeInterface); exact rfl) | ((with_reducible apply QS_ifaceSome); exact rfl; exact rfl) | ((with_reducible apply QS_ifaceNil); exact rfl; exact rfl) | ((with_reducible apply QS_fieldZ); exact rfl; (first | ((repeat (first | with_reducible exact List.mem_cons_self | with_reducible apply List.mem_cons_of_mem)); done) | (repeat (first | exact List.Mem.head _ | apply List.Mem.tail)))) | ((with_reducible apply QS_load); exact rfl; exact Lds.zero _) | exact QS.auto) | ((with_reducible apply QS_nilCheckM); exact rfl; (intro w; kernel_rfl))); exact rfl) | (refine GG ?_) | (refine GE ?_; (first | (rintro _ _ ⟨rfl, rfl⟩) | (rintro _ _ ⟨g, rfl, rfl⟩) | (rintro _ _ ⟨A', c', rfl, rfl⟩)); (try refine ⟨SUB, ?_⟩)) | ((refine GO2 ?_ ?_) <;> intro h <;> (try (repeat (first | with_reducible (replace h := of_decide_eq_true h) | with_reducible (replace h := of_decide_eq_false h) | with_reducible (replace h := bnt h) | with_reducible (replace h := bnf h) | with_reducible (replace h := Int.not_lt.mp h) | with_reducible (replace h := Int.not_le.mp h) | with_reducible (replace h := band_dec h) | with_reducible (replace h := band_decF h) | with_reducible (replace h := bor_dec h) | with_reducible (replace h := bor_decF h)))) <;> (try (exfalso; first | contradiction | omega))) | (refine GOF ?_ ?_) | ((with_reducible apply T_draw (id := 6) 1000 (OT.seq [(0, 0), (0, 2), (0, 4), (0, 5), (2, 1), (0, 6), (0, 7), (0, 8), (2, 3), (2, 9), (0, 10), (0, 11), (0, 12), (0, 13), (0, 14), (0, 15), (0, 16)] .nil)); kernel_rfl; exact rfl; kernel_rfl; (repeat (first | with_reducible exact Blind.body | with_reducible apply Blind.seq | with_reducible apply Blind.block))) | ((with_reducible (first | apply TD_e2z | apply TD_e3z | apply TL_e | apply TD_e2 | apply TD_e3)); ((with_reducible apply ES_callV (f := 129)); exact rfl; (intro w hw; exact hchk w (hw.rd rfl hA)); exact rfl); (first | exact rfl | exact ⟨rfl, rfl, rfl⟩); (rintro _ _ ⟨rfl, rfl⟩); (try refine ⟨SUB, ?_⟩)) | ((with_reducible (first | apply TD_e2z | apply TD_e3z | apply TL_e | apply TD_e2 | apply TD_e3)); ((with_reducible apply ES_callV (f := 78)); exact rfl; (intro w hw; exact hfit w); exact rfl); (first | exact rfl | exact ⟨rfl, rfl, rfl⟩); (rintro _ _ ⟨rfl, rfl⟩); (try refine ⟨SUB, ?_⟩)) | ((with_reducible (first | apply TD_e2z | apply TD_e3z | apply TL_e | apply TD_e2 | apply TD_e3)); ((with_reducible apply ES_callV (f := 79)); exact rfl; (intro w hw; exact harg w); exact rfl); (first | exact rfl | exact ⟨rfl, rfl, rfl⟩); (rintro _ _ ⟨rfl, rfl⟩); (try refine ⟨SUB, ?_⟩)) | ((with_reducible (first | apply TD_e2z | apply TD_e3z | apply TL_e | apply TD_e2 | apply TD_e3)); ((with_reducible apply ES_callV (f := 114)); exact rfl; (intro w hw; exact hof w); exact rfl); (first | exact rfl | exact ⟨rfl, rfl, rfl⟩); (rintro _ _ ⟨rfl, rfl⟩); (try refine ⟨SUB, ?_⟩)) | ((with_reducible (first | apply TD_e2z | apply TD_e3z | apply TL_e | apply TD_e2 | apply TD_e3)); ((with_reducible apply ES_callOwn (f := 130)); exact rfl; (intro w hw; exact hcl w (hw.rd rfl hA)); exact rfl); (first | exact rfl | exact ⟨rfl, rfl, rfl⟩); (rintro _ _ ⟨A1, c1, rfl, rfl⟩); (try refine ⟨SUB, ?_⟩)) | ((with_reducible (first | apply TD_e2z | apply TD_e3z | apply TL_e | apply TD_e2 | apply TD_e3)); ((with_reducible apply ES_invokeX (f := 165) (r := .agg #[]) (X := Option Addr × Nat) (S1 := [entOwn intEnc 1 3 A1 c1 s]) (stepV R) (fun x => [entRd intEnc 1 x.1 R.1])); exact rfl; exact ⟨fun w => by kernel_rfl⟩; exact rfl; ((repeat (first | exact Pull.nil _ | (apply Pull.cons; (repeat (first | with_reducible exact Pick.here _ _ | with_reducible apply Pick.there)))))); (intro x; (try dsimp only); repeat (first | exact AppL.nil _ | apply AppL.cons)); (intro w hw; exact hstep A1 c1 w ((hw.anyN 0).self 0)); exact rfl); (first | exact rfl | exact ⟨rfl, rfl, rfl⟩); (rintro _ _ ⟨⟨A', c'⟩, rfl, rfl⟩); (try refine ⟨SUB, ?_⟩)) | ((with_reducible (first | apply TD_e2z | apply TD_e3z | apply TL_e | apply TD_e2 | apply TD_e3)); ((with_reducible apply ES_callOwn (f := 130)); exact rfl; (intro w hw; exact clone_any _ _ R.1 w (hw.rdIn (by first | ((repeat (first | with_reducible exact List.mem_cons_self | with_reducible apply List.mem_cons_of_mem)); done) | (repeat (first | exact List.Mem.head _ | apply List.Mem.tail)))) hRl); exact rfl); (first | exact rfl | exact ⟨rfl, rfl, rfl⟩); (rintro _ _ ⟨A2, c2, rfl, rfl⟩); (try refine ⟨SUB, ?_⟩)) | fail)
        (refine At_ret Try.results126 rfl (fun w' hw => ?_))
        exact ⟨A2, c2, rfl, hw.ownOut rfl (by first | ((repeat (first | with_reducible exact List.mem_cons_self | with_reducible apply List.mem_cons_of_mem)); done) | (repeat (first | exact List.Mem.head _ | apply List.Mem.tail))), hw.below0 rfl⟩
      · rw [hb] at hck; exact absurd hck.1 (by decide)
    · rw [if_neg hz]
      refine calls_T (S := []) [] Try.func126 rfl Try.ntmps126 (by simp) (Mem.nil _) ?_
      repeat' (first | ((first | with_reducible (first | apply TL_q | apply TD_q0 | apply TD_q1 | apply TD_q2 | apply TD_q3) | ((with_reducible (first | apply TD_q0y | apply TD_q1y)); exact rfl; exact rfl; (with_reducible exact rfl))); (first | (first | ((with_reducible apply QS_makeInterface); exact rfl) | ((with_reducible apply QS_ifaceSome); exact rfl; exact rfl) | ((with_reducible apply QS_ifaceNil); exact rfl; exact rfl) | ((with_reducible apply QS_fieldZ); exact rfl; (first | ((repeat (first | with_reducible exact List.mem_cons_self | with_reducible apply List.mem_cons_of_mem)); done) | (repeat (first | exact List.Mem.head _ | apply List.Mem.tail)))) | ((with_reducible apply QS_load); exact rfl; exact Lds.zero _) | exact QS.auto) | ((with_reducible apply QS_nilCheckM); exact rfl; (intro w; kernel_rfl))); exact rfl) | (refine GO ?_) | (refine GOE ?_; (first | (rintro _ _ ⟨rfl, rfl⟩) | (rintro _ _ ⟨g, rfl, rfl⟩) | (rintro _ _ ⟨A', c', rfl, rfl⟩))) | ((refine GO2 ?_ ?_) <;> intro h <;> (try (repeat (first | with_reducible (replace h := of_decide_eq_true h) | with_reducible (replace h := of_decide_eq_false h) | with_reducible (replace h := bnt h) | with_reducible (replace h := bnf h) | with_reducible (replace h := Int.not_lt.mp h) | with_reducible (replace h := Int.not_le.mp h) | with_reducible (replace h := band_dec h) | with_reducible (replace h := band_decF h) | with_reducible (replace h := bor_dec h) | with_reducible (replace h := bor_decF h)))) <;> (try (exfalso; first | contradiction | omega))) | ((with_reducible (first | apply TD_e2z | apply TD_e3z | apply TL_e | apply TD_e2 | apply TD_e3)); ((with_reducible apply ES_callV (f := 129)); exact rfl; (intro w hw; exact hchk w (hw.rd rfl hA)); exact rfl); (first | exact rfl | exact ⟨rfl, rfl, rfl⟩); (rintro _ _ ⟨rfl, rfl⟩); (try refine ⟨SUB, ?_⟩)) | ((with_reducible (first | apply TD_e2z | apply TD_e3z | apply TL_e | apply TD_e2 | apply TD_e3)); ((with_reducible apply ES_callV (f := 78)); exact rfl; (intro w hw; exact hfit w); exact rfl); (first | exact rfl | exact ⟨rfl, rfl, rfl⟩); (rintro _ _ ⟨rfl, rfl⟩); (try refine ⟨SUB, ?_⟩)) | ((with_reducible (first | apply TD_e2z | apply TD_e3z | apply TL_e | apply TD_e2 | apply TD_e3)); ((with_reducible apply ES_callV (f := 79)); exact rfl; (intro w hw; exact harg w); exact rfl); (first | exact rfl | exact ⟨rfl, rfl, rfl⟩); (rintro _ _ ⟨rfl, rfl⟩); (try refine ⟨SUB, ?_⟩)) | fail)
      all_goals first
        | ((refine At_ret Try.results126 rfl (fun w' hw => ?_))
           exact ⟨none, 0, rfl, Own.nil _ _, hw.below0 rfl⟩)
        | (exfalso; simp_all; done)
  · have hO : stepO typ s kind a = ([], 0, chkS typ s) := by unfold stepO; rw [if_neg h0]
    rw [hO]
    generalize chkS typ s = q at *
    refine calls_T (S := []) [] Try.func126 rfl Try.ntmps126 (by simp) (Mem.nil _) ?_
    repeat' (first | ((first | with_reducible (first | apply TL_q | apply TD_q0 | apply TD_q1 | apply TD_q2 | apply TD_q3) | ((with_reducible (first | apply TD_q0y | apply TD_q1y)); exact rfl; exact rfl; (with_reducible exact rfl))); (first | (first | ((with_reducible apply QS_makeInterface); exact rfl) | ((with_reducible apply QS_ifaceSome); exact rfl; exact rfl) | ((with_reducible apply QS_ifaceNil); exact rfl; exact rfl) | ((with_reducible apply QS_fieldZ); exact rfl; (first | ((repeat (first | with_reducible exact List.mem_cons_self | with_reducible apply List.mem_cons_of_mem)); done) | (repeat (first | exact List.Mem.head _ | apply List.Mem.tail)))) | ((with_reducible apply QS_load); exact rfl; exact Lds.zero _) | exact QS.auto) | ((with_reducible apply QS_nilCheckM); exact rfl; (intro w; kernel_rfl))); exact rfl) | (refine GO ?_) | (refine GOE ?_; (first | (rintro _ _ ⟨rfl, rfl⟩) | (rintro _ _ ⟨g, rfl, rfl⟩) | (rintro _ _ ⟨A', c', rfl, rfl⟩))) | ((refine GO2 ?_ ?_) <;> intro h <;> (try (repeat (first | with_reducible (replace h := of_decide_eq_true h) | with_reducible (replace h := of_decide_eq_false h) | with_reducible (replace h := bnt h) | with_reducible (replace h := bnf h) | with_reducible (replace h := Int.not_lt.mp h) | with_reducible (replace h := Int.not_le.mp h) | with_reducible (replace h := band_dec h) | with_reducible (replace h := band_decF h) | with_reducible (replace h := bor_dec h) | with_reducible (replace h := bor_decF h)))) <;> (try (exfalso; first | contradiction | omega))) | ((with_reducible (first | apply TD_e2z | apply TD_e3z | apply TL_e | apply TD_e2 | apply TD_e3)); ((with_reducible apply ES_callV (f := 129)); exact rfl; (intro w hw; exact hchk w (hw.rd rfl hA)); exact rfl); (first | exact rfl | exact ⟨rfl, rfl, rfl⟩); (rintro _ _ ⟨rfl, rfl⟩); (try refine ⟨SUB, ?_⟩)) | ((with_reducible (first | apply TD_e2z | apply TD_e3z | apply TL_e | apply TD_e2 | apply TD_e3)); ((with_reducible apply ES_callV (f := 78)); exact rfl; (intro w hw; exact hfit w); exact rfl); (first | exact rfl | exact ⟨rfl, rfl, rfl⟩); (rintro _ _ ⟨rfl, rfl⟩); (try refine ⟨SUB, ?_⟩)) | ((with_reducible (first | apply TD_e2z | apply TD_e3z | apply TL_e | apply TD_e2 | apply TD_e3)); ((with_reducible apply ES_callV (f := 79)); exact rfl; (intro w hw; exact harg w); exact rfl); (first | exact rfl | exact ⟨rfl, rfl, rfl⟩); (rintro _ _ ⟨rfl, rfl⟩); (try refine ⟨SUB, ?_⟩)) | fail)
    all_goals first
      | ((refine At_ret Try.results126 rfl (fun w' hw => ?_))
         exact ⟨none, 0, rfl, Own.nil _ _, hw.below0 rfl⟩)
      | (exfalso; omega)
end
end Go.Proofs.Ytaonijdhmgcbjaa

namespace Go.Proofs.Ytaonijdhmgcbjaa
open Go.RowKit

theorem stepped_any (A : Option Addr) (c : Nat) (s : List Int) (typ kind a : Int) (w : World) (hA : RdInt w A s) (hAn : A = none → c = 0) (hc : s.length ≤ c) (hck : chkS typ s = 0) (hf : fitB typ kind) :
    Calls Try.prog 53 #[.slice A s.length c, .int .i64 kind, .int .i64 a] w (StepdPost w A s (stepP typ s kind a)) := by
  obtain ⟨_, hl, hv⟩ := chkS_ok hck
  have hse := step_eq (a := a) hv hf
  rcases hf with ⟨rfl, rfl | rfl⟩ | ⟨rfl, rfl | rfl⟩ | ⟨rfl, rfl | rfl⟩ | ⟨rfl, hk⟩ | ⟨rfl, rfl⟩
  · exact stepd_1 A c s a w
  · have h1 : oneB s = true := hv
    simp only [oneB, Bool.and_eq_true, decide_eq_true_eq] at h1
    exact stepd_2 A c s a w hA hAn hc (by omega)
  · have e : stepP 2 s 3 a = putR s a := by simp [stepP, putR]
    rw [e]; exact stepd_put A c s a w hA hAn hl 3 (.inl rfl)
  · have e : stepP 2 s 4 a = if s.length = 0 then (s, -1, 0) else (s.drop 1, s.getD 0 0, 0) := by simp [stepP]
    rw [e]; exact stepd_4 A c s a w hA hAn hc hl
  · have e : stepP 3 s 5 a = putR s a := by simp [stepP, putR]
    rw [e]; exact stepd_put A c s a w hA hAn hl 5 (.inr rfl)
  · have e : stepP 3 s 6 a = if s.length = 0 then (s, -1, 0) else (s.take (s.length - 1), s.getD (s.length - 1) 0, 0) := by simp [stepP]
    rw [e]; exact stepd_6 A c s a w hA hAn hc hl
  · rw [← hse]
    have e : stepR s kind a = if kind = 7 ∧ s.contains a = false ∧ s.length = 50 then ([], 0, 2) else ((setR s kind a).1, (setR s kind a).2, 0) := by
      unfold stepR
      have h3 : kind ≠ 3 := by omega
      have h5 : kind ≠ 5 := by omega
      have h10 : kind ≠ 10 := by omega
      have h1 : kind ≠ 1 := by omega
      have h2 : kind ≠ 2 := by omega
      have h4 : kind ≠ 4 := by omega
      have h6 : kind ≠ 6 := by omega
      simp only [h3, h5, h10, h1, h2, h4, h6, false_or, false_and, or_false, if_false, and_assoc]
    rw [e]
    exact stepd_set A c s a kind w hA hl hk
  · have h1 : oneB s = true := hv
    simp only [oneB, Bool.and_eq_true, decide_eq_true_eq] at h1
    obtain ⟨x, rfl⟩ := List.length_eq_one_iff.1 h1.1
    have h2 : 0 ≤ x ∧ x ≤ 1000 := h1.2
    have e : stepP 5 [x] 10 a = if x = 1000 then ([], 0, 2) else ([x + 1], x, 0) := by simp [stepP]
    rw [e]
    exact stepd_10 A c [x] a w hA x rfl h2
/-! lists of what is done -/
structure Dn where
  kind : Int
  arg : Int
  res : Int
  deriving Inhabited
def Dn.enc (d : Dn) : List Value := [.int .i64 d.kind, .int .i64 d.arg, .int .i64 d.res]
abbrev RdDo (w : World) (A : Option Addr) (l : List Dn) : Prop := RdE Dn.enc 3 w A l
/-- what is right goes on -/
def goesO (typ : Int) (s : List Int) (d : Dn) : Bool := decide ((stepO typ s d.kind d.arg).2.2 = 0 ∧ (stepO typ s d.kind d.arg).2.1 = d.res)
def playN (typ : Int) : List Int → List Dn → Nat
  | _, [] => 0
  | s, d :: l => if goesO typ s d = true then playN typ (stepO typ s d.kind d.arg).1 l + 1 else 0
end Go.Proofs.Ytaonijdhmgcbjaa

namespace Go.Proofs.Ytaonijdhmgcbjaa
open Go.RowKit

theorem stepO_ok {typ : Int} {s : List Int} {k a : Int} (he : (stepO typ s k a).2.2 = 0) : chkS typ s = 0 ∧ fitB typ k ∧ argB k a = true ∧ stepO typ s k a = stepP typ s k a := by
  unfold stepO at he ⊢
  by_cases h0 : chkS typ s = 0
  · rw [if_pos h0] at he ⊢
    by_cases h1 : ((kindsL typ).contains k && argB k a) = true
    · rw [if_pos h1] at he ⊢
      rw [Bool.and_eq_true] at h1
      exact ⟨h0, kinds_fit h1.1, h1.2, rfl⟩
    · rw [if_neg h1] at he; cases he
  · rw [if_neg h0] at he
    exact absurd he h0
theorem goes_ok {typ : Int} {s : List Int} {d : Dn} (h : goesO typ s d = true) : chkS typ (stepO typ s d.kind d.arg).1 = 0 := by
  unfold goesO at h
  simp only [decide_eq_true_eq] at h
  obtain ⟨h0, h1, h2, h3⟩ := stepO_ok h.1
  rw [h3]
  rw [h3] at h
  exact step_valid h0 h1 h2 h.1
theorem begL_ok {typ : Int} (h : typB typ = true) : chkS typ (begL typ) = 0 := by
  rcases typ_cases typ with rfl | rfl | rfl | rfl | rfl | ⟨hb, _⟩
  · rfl
  · rfl
  · rfl
  · rfl
  · rfl
  · rw [hb] at h; cases h
/-- a step out of what lies in blocks of one's own -/
theorem stepped_mem {C : Ctx} {R : List Ent} {w : World} {A : Option Addr} {c : Nat} {s : List Int} {typ kind a : Int} (hw : Mem C w ([entRd intEnc 1 A s] ++ R)) (hAn : A = none → c = 0) (hc : s.length ≤ c) (hck : chkS typ s = 0) (hf : fitB typ kind) :
    Calls Try.prog 53 #[.slice A s.length c, .int .i64 kind, .int .i64 a] w fun e w' =>
      ∃ x : {x : Option Addr × Nat // (x.1 = none → x.2 = 0) ∧ (stepP typ s kind a).1.length ≤ x.2}, e = .returned (stepV (stepP typ s kind a) x.1) ∧ Mem ⟨0, blks [entRd intEnc 1 A s], w⟩ w' [entRd intEnc 1 x.1.1 (stepP typ s kind a).1] := by
  have hrd := hw.rdIn (enc := intEnc) (M := 1) (A := A) (l := s) (by simp)
  refine (stepped_any A c s typ kind a w hrd hAn hc hck hf).mono ?_
  rintro e w' ⟨x, rfl, hx, hb⟩
  rcases hx with ho | ⟨hr, hblk, hle, hxn⟩
  · refine ⟨⟨x, (Own.facts ho).2, (Own.facts ho).1⟩, rfl, ?_⟩
    have := (Mem.ofOwn hb ho).ownToRd (enc := intEnc) (M := 1) (et := 3) (c := x.2) (A := x.1) (ls := (stepP typ s kind a).1) (by simp) (fun _ => rfl)
    exact this.widen (by simp)
  · refine ⟨⟨x, hxn, hle⟩, rfl, ?_⟩
    have h1 : Mem ⟨0, blks [entRd intEnc 1 A s], w⟩ w' [entRd intEnc 1 A s] := ((hw.anyN 0).self 0).below hb
    exact h1.toRd (e := entRd intEnc 1 A s) (by simp) (fun g hg => by
      show A.map (·.block) = some g
      rw [← hblk]; exact hg) ((hr w hrd).below hb)
end Go.Proofs.Ytaonijdhmgcbjaa

namespace Go.Proofs.Ytaonijdhmgcbjaa
open Go.RowKit

section
variable (B : Option Addr) (d : Nat) (l : List Dn) (typ : Int) (w : World) (hB : RdDo w B l) (hl : l.length ≤ 9223372036854775807)
include hB hl
set_option maxRecDepth 100000 in
set_option maxHeartbeats 2000000 in
theorem played_any (ht : typB typ = true) : Calls Try.prog 76 #[.int .i64 typ, .slice B l.length d] w fun e w' => e = .returned (.int .i64 (playN typ (begL typ) l : Int)) ∧ Below w.heap.size w w' := by
  have hst := fun w => begin_any typ w
  have hok := begL_ok ht
  obtain ⟨N, hN⟩ : ∃ N, playN typ (begL typ) l = N := ⟨_, rfl⟩
  rw [hN]
  generalize begL typ = s0 at *
  refine calls_T (S := []) [] Try.func76 rfl Try.ntmps76 (by simp) (Mem.nil _) ?_
  repeat' (first | (refine GO ?_) | (refine GOE ?_; (first | (rintro _ _ ⟨rfl, rfl⟩) | (rintro _ _ ⟨g, rfl, rfl⟩) | (rintro _ _ ⟨A', c', rfl, rfl⟩))) | ((refine GO2 ?_ ?_) <;> intro h <;> (try (repeat (first | with_reducible (replace h := of_decide_eq_true h) | with_reducible (replace h := of_decide_eq_false h) | with_reducible (replace h := bnt h) | with_reducible (replace h := bnf h) | with_reducible (replace h := Int.not_lt.mp h) | with_reducible (replace h := Int.not_le.mp h) | with_reducible (replace h := band_dec h) | with_reducible (replace h := band_decF h) | with_reducible (replace h := bor_dec h) | with_reducible (replace h := bor_decF h)))) <;> (try (exfalso; first | contradiction | omega))) | ((with_reducible (first | apply TD_e2z | apply TD_e3z | apply TL_e | apply TD_e2 | apply TD_e3)); ((with_reducible apply ES_callOwn (f := 52)); exact rfl; (intro w hw; exact hst w); exact rfl); (first | exact rfl | exact ⟨rfl, rfl, rfl⟩); (rintro _ _ ⟨A0, c0, rfl, rfl⟩); (try refine ⟨SUB, ?_⟩)) | fail)
  refine T_fact (p := s0.length ≤ c0 ∧ (A0 = none → c0 = 0)) (fun w hw => hw.ownFacts (enc := intEnc) (M := 1) (et := 3) (by first | ((repeat (first | with_reducible exact List.mem_cons_self | with_reducible apply List.mem_cons_of_mem)); done) | (repeat (first | exact List.Mem.head _ | apply List.Mem.tail)))) fun hf0 => ?_
  refine T_loop (X := Nat × List Int × Option Addr × Nat) (fun x => [(15, .int .i64 (x.1 : Nat)), (14, .int .i64 l.length), (13, .slice B l.length d), (5, .slice x.2.2.1 x.2.1.length x.2.2.2), (1, .slice B l.length d), (0, .int .i64 typ)])
    (fun x => [entRd intEnc 1 x.2.2.1 x.2.1]) (fun x => x.1 ≤ l.length ∧ chkS typ x.2.1 = 0 ∧ x.1 + playN typ x.2.1 (l.drop x.1) = N ∧ x.2.1.length ≤ x.2.2.2 ∧ (x.2.2.1 = none → x.2.2.2 = 0)) (fun x => l.length - x.1) (0, s0, A0, c0) ⟨by simp, hok, by simpa using hN, hf0.1, hf0.2⟩ (by (repeat (first | exact SubE.nil _ | refine SubE.cons rfl ?_)))
    (fun w hw => hw.ownToRd (enc := intEnc) (M := 1) (et := 3) (by first | ((repeat (first | with_reducible exact List.mem_cons_self | with_reducible apply List.mem_cons_of_mem)); done) | (repeat (first | exact List.Mem.head _ | apply List.Mem.tail))) (fun _ => rfl)) ?_
  rintro ⟨k, s, A1, c1⟩ ⟨hk, hck, hplay, hsc, hsn⟩
  dsimp only at hk hck hplay hsc hsn ⊢
  by_cases hlt : k < l.length
  · obtain ⟨b, o, rfl, _⟩ := RdE.open hB (by omega)
    have hd : l.drop k = l[k] :: l.drop (k + 1) := List.drop_eq_getElem_cons hlt
    rw [hd, playN] at hplay
    have hask := fun w => asked_any typ l[k].kind l[k].arg w
    by_cases hz1 : ((kindsL typ).contains l[k].kind && argB l[k].kind l[k].arg) = true
    · rw [hz1] at hask
      have hz2 : stepO typ s l[k].kind l[k].arg = stepP typ s l[k].kind l[k].arg := by unfold stepO; rw [if_pos hck, if_pos hz1]
      have hfb := kinds_fit ((Bool.and_eq_true _ _ ▸ hz1 : _ ∧ _).1)
      have hstep := fun (C : Ctx) (R : List Ent) (w : World) (hw : Mem C w ([entRd intEnc 1 A1 s] ++ R)) => stepped_mem (a := l[k].arg) hw hsn hsc hck hfb
      have hgo : goesO typ s l[k] = decide ((stepP typ s l[k].kind l[k].arg).2.2 = 0 ∧ (stepP typ s l[k].kind l[k].arg).2.1 = l[k].res) := by unfold goesO; rw [hz2]
      have hgk := goes_ok (typ := typ) (s := s) (d := l[k])
      rw [hz2] at hplay hgk
      generalize stepP typ s l[k].kind l[k].arg = R at *
      generalize goesO typ s l[k] = z at *
      repeat' (first | (refine GO ?_) | (refine GOE ?_; (first | (rintro _ _ ⟨rfl, rfl⟩) | (rintro _ _ ⟨g, rfl, rfl⟩) | (rintro _ _ ⟨A', c', rfl, rfl⟩))) | ((refine GO2 ?_ ?_) <;> intro h <;> (try (repeat (first | with_reducible (replace h := of_decide_eq_true h) | with_reducible (replace h := of_decide_eq_false h) | with_reducible (replace h := bnt h) | with_reducible (replace h := bnf h) | with_reducible (replace h := Int.not_lt.mp h) | with_reducible (replace h := Int.not_le.mp h) | with_reducible (replace h := band_dec h) | with_reducible (replace h := band_decF h) | with_reducible (replace h := bor_dec h) | with_reducible (replace h := bor_decF h)))) <;> (try (exfalso; first | contradiction | omega))) | ((with_reducible (first | apply TD_e2z | apply TD_e3z | apply TL_e | apply TD_e2 | apply TD_e3)); ((with_reducible apply ES_callV (f := 60)); exact rfl; (intro w hw; exact hask w); exact rfl); (first | exact rfl | exact ⟨rfl, rfl, rfl⟩); (rintro _ _ ⟨rfl, rfl⟩); (try refine ⟨SUB, ?_⟩)) | ((with_reducible (first | apply TD_e2z | apply TD_e3z | apply TL_e | apply TD_e2 | apply TD_e3)); ((with_reducible apply ES_callX (f := 53) (X := {x : Option Addr × Nat // (x.1 = none → x.2 = 0) ∧ R.1.length ≤ x.2}) (S1 := [entRd intEnc 1 A1 s]) (fun x => stepV R x.1) (fun x => [entRd intEnc 1 x.1.1 R.1])); exact rfl; ((repeat (first | exact Pull.nil _ | (apply Pull.cons; (repeat (first | with_reducible exact Pick.here _ _ | with_reducible apply Pick.there)))))); (intro x; (try dsimp only); repeat (first | exact AppL.nil _ | apply AppL.cons)); (intro w hw; exact hstep _ _ w hw); exact rfl); (first | exact rfl | exact ⟨rfl, rfl, rfl⟩); (rintro _ _ ⟨⟨⟨A2, c2⟩, hx⟩, rfl, rfl⟩); (try refine ⟨SUB, ?_⟩)) | fail)
      · (refine At_ret Try.results76 rfl (fun w' hw => ?_))
        have hz : z = false := by rw [hgo]; simp [‹¬ R.2.2 = 0›]
        rw [if_neg (by rw [hz]; simp)] at hplay
        exact ⟨by rw [← hplay]; rfl, hw.below0 rfl⟩
      · (refine At_ret Try.results76 rfl (fun w' hw => ?_))
        have hz : z = false := by rw [hgo]; simp [‹¬ R.2.1 = l[k].res›]
        rw [if_neg (by rw [hz]; simp)] at hplay
        exact ⟨by rw [← hplay]; rfl, hw.below0 rfl⟩
      · have hz : z = true := by rw [hgo]; simp [‹R.2.2 = 0›, ‹R.2.1 = l[k].res›]
        rw [if_pos hz] at hplay
        exact At_rounds (k + 1, R.1, A2, c2) ⟨hlt, hgk hz, by dsimp only; omega, hx.2, hx.1⟩ (by (try dsimp only); omega) (by (repeat (first | exact SubE.nil _ | refine SubE.cons rfl ?_))) (by exact SUBS)
    · have hz : goesO typ s l[k] = false := by
        unfold goesO stepO
        rw [if_pos hck, if_neg hz1]
        simp
      rw [if_neg (by rw [hz]; simp)] at hplay
      rw [Bool.eq_false_iff.2 hz1] at hask
      repeat' (first | (refine GO ?_) | (refine GOE ?_; (first | (rintro _ _ ⟨rfl, rfl⟩) | (rintro _ _ ⟨g, rfl, rfl⟩) | (rintro _ _ ⟨A', c', rfl, rfl⟩))) | ((refine GO2 ?_ ?_) <;> intro h <;> (try (repeat (first | with_reducible (replace h := of_decide_eq_true h) | with_reducible (replace h := of_decide_eq_false h) | with_reducible (replace h := bnt h) | with_reducible (replace h := bnf h) | with_reducible (replace h := Int.not_lt.mp h) | with_reducible (replace h := Int.not_le.mp h) | with_reducible (replace h := band_dec h) | with_reducible (replace h := band_decF h) | with_reducible (replace h := bor_dec h) | with_reducible (replace h := bor_decF h)))) <;> (try (exfalso; first | contradiction | omega))) | ((with_reducible (first | apply TD_e2z | apply TD_e3z | apply TL_e | apply TD_e2 | apply TD_e3)); ((with_reducible apply ES_callV (f := 60)); exact rfl; (intro w hw; exact hask w); exact rfl); (first | exact rfl | exact ⟨rfl, rfl, rfl⟩); (rintro _ _ ⟨rfl, rfl⟩); (try refine ⟨SUB, ?_⟩)) | fail)
      (refine At_ret Try.results76 rfl (fun w' hw => ?_))
      exact ⟨by rw [← hplay]; rfl, hw.below0 rfl⟩
  · obtain rfl : k = l.length := by omega
    rw [List.drop_length, playN] at hplay
    repeat' (first | (refine GO ?_) | (refine GOE ?_; (first | (rintro _ _ ⟨rfl, rfl⟩) | (rintro _ _ ⟨g, rfl, rfl⟩) | (rintro _ _ ⟨A', c', rfl, rfl⟩))) | ((refine GO2 ?_ ?_) <;> intro h <;> (try (repeat (first | with_reducible (replace h := of_decide_eq_true h) | with_reducible (replace h := of_decide_eq_false h) | with_reducible (replace h := bnt h) | with_reducible (replace h := bnf h) | with_reducible (replace h := Int.not_lt.mp h) | with_reducible (replace h := Int.not_le.mp h) | with_reducible (replace h := band_dec h) | with_reducible (replace h := band_decF h) | with_reducible (replace h := bor_dec h) | with_reducible (replace h := bor_decF h)))) <;> (try (exfalso; first | contradiction | omega))) | fail)
    (refine At_ret Try.results76 rfl (fun w' hw => ?_))
    exact ⟨by rw [← hplay]; rfl, hw.below0 rfl⟩
end
end Go.Proofs.Ytaonijdhmgcbjaa
