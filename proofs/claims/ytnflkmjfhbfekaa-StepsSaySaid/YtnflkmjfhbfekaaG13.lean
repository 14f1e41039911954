/- Lemmas for the walks (Obj7, ObjB, ObjC, Law). No condition. -/
import Derived.Test.YtnflkmjfhbfekaaG11
import Derived.Test.YtnflkmjfhbfekaaG12
import Derived.Test.YtnflkmjfhbfekaaG08
import Derived.Test.YtnflkmjfhbfekaaRows
import Derived.Test.YtnflkmjfhbfekaaG01
import Derived.ProofKit
import Derived.Deep.Slices
import Derived.Deep.Fields
import Derived.Lib.SmallJoins
import Derived.ChangeSlices
set_option linter.unusedSimpArgs false
set_option linter.unusedVariables false
set_option linter.unusedSectionVars false
set_option linter.unnecessarySimpa false
namespace Go.Proofs.Ytnflkmjfhbfekaa
open Go.RowKit

def stepO (typ : Int) (s : List Int) (kind a : Int) : Res := if chkS typ s = 0 then (if ((kindsL typ).contains kind && argB kind a) = true then stepP typ s kind a else ([], 0, 3)) else ([], 0, chkS typ s)
theorem kinds_fit {typ kind : Int} (h : (kindsL typ).contains kind = true) : fitB typ kind := by
  unfold kindsL at h
  unfold fitB
  repeat' split at h
  all_goals (simp only [List.contains_cons, List.contains_nil, Bool.or_eq_true, beq_iff_eq, Bool.false_eq_true, or_false] at h; try omega)
section
variable (A : Option Addr) (c : Nat) (s : List Int) (typ kind a : Int) (w : World) (hA : RdInt w A s) (hl : s.length ≤ 9223372036854775807)
include hA hl
set_option maxRecDepth 100000 in
set_option maxHeartbeats 8000000 in
theorem objStep_any : Calls Try.prog 145 #[.int .i64 typ, .slice A s.length c, .int .i64 kind, .int .i64 a] w fun e w' => ∃ A' c', e = .returned (stepV (stepO typ s kind a) (A', c')) ∧ Own intEnc 1 3 w' w.heap.size (.slice A' (stepO typ s kind a).1.length c') (stepO typ s kind a).1 ∧ Below w.heap.size w w' := by
  have hchk := fun w hA => objCheck_any A c s w hA hl typ
  have hfit := fun w => fits_C typ kind w
  have harg := fun w => argument_C kind a w
  by_cases h0 : chkS typ s = 0
  · have hck := chkS_ok h0
    have hcl := fun w hA => clone_any A c s w hA (by omega)
    have hO : stepO typ s kind a = if ((kindsL typ).contains kind && argB kind a) = true then stepP typ s kind a else ([], 0, 3) := by unfold stepO; rw [if_pos h0]
    rw [hO]
    rw [h0] at hchk
    clear hO
    generalize hz1 : (kindsL typ).contains kind = z1 at *
    generalize hz2 : argB kind a = z2 at *
    by_cases hz : (z1 && z2) = true
    · rw [if_pos hz]
      obtain ⟨rfl, rfl⟩ : z1 = true ∧ z2 = true := by rwa [Bool.and_eq_true] at hz
      have hfb := kinds_fit hz1
      have hRl : (stepP typ s kind a).1.length ≤ 1000 := by
        by_cases he : (stepP typ s kind a).2.2 = 0
        · have := (chkS_ok (step_valid h0 hfb hz2 he)).2.1; omega
        · have := step_bad he
          rw [this]; simp
      rcases typ_cases typ with rfl | rfl | rfl | rfl | rfl | ⟨hb, hv⟩
      · have hof := fun w => of_any 1 w
        rw [show obV 1 = .iface 243 (.agg #[]) from rfl] at hof
        have hstep := fun A c w h => registerStep A c s kind a w hck.2.2 hck.2.1 h
        generalize stepP 1 s kind a = R at *
        refine calls_T (S := []) [] Try.func145 rfl Try.ntmps145 (by simp) (Mem.nil _) ?_
        repeat' (first | ((first | with_reducible (first | apply TL_q | apply TD_q0 | apply TD_q1 | apply TD_q2 | apply TD_q3) | ((with_reducible (first | apply TD_q0y | apply TD_q1y)); exact rfl; exact rfl; (with_reducible exact rfl))); (first | (first | ((with_reducible apply QS_makeInterface); exact rfl) | ((with_reducible apply QS_ifaceSome); exact rfl; exact rfl) | ((with_reducible apply QS_ifaceNil); exact rfl; exact rfl) | ((with_reducible apply QS_fieldZ); exact rfl; (first | ((repeat (first | with_reducible exact List.mem_cons_self | with_reducible apply List.mem_cons_of_mem)); done) | (repeat (first | exact List.Mem.head _ | apply List.Mem.tail)))) | ((with_reducible apply QS_load); exact rfl; exact Lds.zero _) | exact QS.auto) | ((with_reducible apply QS_nilCheckM); exact rfl; (intro w; kernel_rfl))); exact rfl) | (refine GG ?_) | (refine GE ?_; (first | (rintro _ _ ⟨rfl, rfl⟩) | (rintro _ _ ⟨g, rfl, rfl⟩) | (rintro _ _ ⟨A', c', rfl, rfl⟩)); (try refine ⟨SUB, ?_⟩)) | ((refine GO2 ?_ ?_) <;> intro h <;> (try (repeat (first | with_reducible (replace h := of_decide_eq_true h) | with_reducible (replace h := of_decide_eq_false h) | with_reducible (replace h := bnt h) | with_reducible (replace h := bnf h) | with_reducible (replace h := Int.not_lt.mp h) | with_reducible (replace h := Int.not_le.mp h) | with_reducible (replace h := band_dec h) | with_reducible (replace h := band_decF h) | with_reducible (replace h := bor_dec h) | with_reducible (replace h := bor_decF h)))) <;> (try (exfalso; first | contradiction | omega))) | (refine GOF ?_ ?_) | ((with_reducible apply T_draw (id := 6) 1000 (OT.seq [(0, 0), (0, 2), (0, 4), (0, 5), (2, 1), (0, 6), (0, 7), (0, 8), (2, 3), (2, 9), (0, 10), (0, 11), (0, 12), (0, 13), (0, 14), (0, 15), (0, 16)] .nil)); kernel_rfl; exact rfl; kernel_rfl; (repeat (first | with_reducible exact Blind.body | with_reducible apply Blind.seq | with_reducible apply Blind.block))) | ((with_reducible (first | apply TD_e2z | apply TD_e3z | apply TL_e | apply TD_e2 | apply TD_e3)); ((with_reducible apply ES_callV (f := 148)); exact rfl; (intro w hw; exact hchk w (hw.rd rfl hA)); exact rfl); (first | exact rfl | exact ⟨rfl, rfl, rfl⟩); (rintro _ _ ⟨rfl, rfl⟩); (try refine ⟨SUB, ?_⟩)) | ((with_reducible (first | apply TD_e2z | apply TD_e3z | apply TL_e | apply TD_e2 | apply TD_e3)); ((with_reducible apply ES_callV (f := 69)); exact rfl; (intro w hw; exact hfit w); exact rfl); (first | exact rfl | exact ⟨rfl, rfl, rfl⟩); (rintro _ _ ⟨rfl, rfl⟩); (try refine ⟨SUB, ?_⟩)) | ((with_reducible (first | apply TD_e2z | apply TD_e3z | apply TL_e | apply TD_e2 | apply TD_e3)); ((with_reducible apply ES_callV (f := 70)); exact rfl; (intro w hw; exact harg w); exact rfl); (first | exact rfl | exact ⟨rfl, rfl, rfl⟩); (rintro _ _ ⟨rfl, rfl⟩); (try refine ⟨SUB, ?_⟩)) | ((with_reducible (first | apply TD_e2z | apply TD_e3z | apply TL_e | apply TD_e2 | apply TD_e3)); ((with_reducible apply ES_callV (f := 133)); exact rfl; (intro w hw; exact hof w); exact rfl); (first | exact rfl | exact ⟨rfl, rfl, rfl⟩); (rintro _ _ ⟨rfl, rfl⟩); (try refine ⟨SUB, ?_⟩)) | ((with_reducible (first | apply TD_e2z | apply TD_e3z | apply TL_e | apply TD_e2 | apply TD_e3)); ((with_reducible apply ES_callOwn (f := 149)); exact rfl; (intro w hw; exact hcl w (hw.rd rfl hA)); exact rfl); (first | exact rfl | exact ⟨rfl, rfl, rfl⟩); (rintro _ _ ⟨A1, c1, rfl, rfl⟩); (try refine ⟨SUB, ?_⟩)) | ((with_reducible (first | apply TD_e2z | apply TD_e3z | apply TL_e | apply TD_e2 | apply TD_e3)); ((with_reducible apply ES_invokeX (f := 167) (r := .agg #[]) (X := Option Addr × Nat) (S1 := [entOwn intEnc 1 3 A1 c1 s]) (stepV R) (fun x => [entRd intEnc 1 x.1 R.1])); exact rfl; exact ⟨fun w => by kernel_rfl⟩; exact rfl; ((repeat (first | exact Pull.nil _ | (apply Pull.cons; (repeat (first | with_reducible exact Pick.here _ _ | with_reducible apply Pick.there)))))); (intro x; (try dsimp only); repeat (first | exact AppL.nil _ | apply AppL.cons)); (intro w hw; exact hstep A1 c1 w ((hw.anyN 0).self 0)); exact rfl); (first | exact rfl | exact ⟨rfl, rfl, rfl⟩); (rintro _ _ ⟨⟨A', c'⟩, rfl, rfl⟩); (try refine ⟨SUB, ?_⟩)) | ((with_reducible (first | apply TD_e2z | apply TD_e3z | apply TL_e | apply TD_e2 | apply TD_e3)); ((with_reducible apply ES_callOwn (f := 149)); exact rfl; (intro w hw; exact clone_any _ _ R.1 w (hw.rdIn (by first | ((repeat (first | with_reducible exact List.mem_cons_self | with_reducible apply List.mem_cons_of_mem)); done) | (repeat (first | exact List.Mem.head _ | apply List.Mem.tail)))) hRl); exact rfl); (first | exact rfl | exact ⟨rfl, rfl, rfl⟩); (rintro _ _ ⟨A2, c2, rfl, rfl⟩); (try refine ⟨SUB, ?_⟩)) | fail)
        (refine At_ret Try.results145 rfl (fun w' hw => ?_))
        exact ⟨A2, c2, rfl, hw.ownOut rfl (by first | ((repeat (first | with_reducible exact List.mem_cons_self | with_reducible apply List.mem_cons_of_mem)); done) | (repeat (first | exact List.Mem.head _ | apply List.Mem.tail))), hw.below0 rfl⟩
      · have hof := fun w => of_any 2 w
        rw [show obV 2 = .iface 246 (.agg #[]) from rfl] at hof
        have hstep := fun A c w h => queueStep A c s kind a w hck.2.2 hck.2.1 h
        generalize stepP 2 s kind a = R at *
        refine calls_T (S := []) [] Try.func145 rfl Try.ntmps145 (by simp) (Mem.nil _) ?_
        repeat' (first | ((first | with_reducible (first | apply TL_q | apply TD_q0 | apply TD_q1 | apply TD_q2 | apply TD_q3) | ((with_reducible (first | apply TD_q0y | apply TD_q1y)); exact rfl; exact rfl; (with_reducible exact rfl))); (first | (first | ((with_reducible apply QS_makeInterface); exact rfl) | ((with_reducible apply QS_ifaceSome); exact rfl; exact rfl) | ((with_reducible apply QS_ifaceNil); exact rfl; exact rfl) | ((with_reducible apply QS_fieldZ); exact rfl; (first | ((repeat (first | with_reducible exact List.mem_cons_self | with_reducible apply List.mem_cons_of_mem)); done) | (repeat (first | exact List.Mem.head _ | apply List.Mem.tail)))) | ((with_reducible apply QS_load); exact rfl; exact Lds.zero _) | exact QS.auto) | ((with_reducible apply QS_nilCheckM); exact rfl; (intro w; kernel_rfl))); exact rfl) | (refine GG ?_) | (refine GE ?_; (first | (rintro _ _ ⟨rfl, rfl⟩) | (rintro _ _ ⟨g, rfl, rfl⟩) | (rintro _ _ ⟨A', c', rfl, rfl⟩)); (try refine ⟨SUB, ?_⟩)) | ((refine GO2 ?_ ?_) <;> intro h <;> (try (repeat (first | with_reducible (replace h := of_decide_eq_true h) | with_reducible (replace h := of_decide_eq_false h) | with_reducible (replace h := bnt h) | with_reducible (replace h := bnf h) | with_reducible (replace h := Int.not_lt.mp h) | with_reducible (replace h := Int.not_le.mp h) | with_reducible (replace h := band_dec h) | with_reducible (replace h := band_decF h) | with_reducible (replace h := bor_dec h) | with_reducible (replace h := bor_decF h)))) <;> (try (exfalso; first | contradiction | omega))) | (refine GOF ?_ ?_) | ((with_reducible apply T_draw (id := 6) 1000 (OT.seq [(0, 0), (0, 2), (0, 4), (0, 5), (2, 1), (0, 6), (0, 7), (0, 8), (2, 3), (2, 9), (0, 10), (0, 11), (0, 12), (0, 13), (0, 14), (0, 15), (0, 16)] .nil)); kernel_rfl; exact rfl; kernel_rfl; (repeat (first | with_reducible exact Blind.body | with_reducible apply Blind.seq | with_reducible apply Blind.block))) | ((with_reducible (first | apply TD_e2z | apply TD_e3z | apply TL_e | apply TD_e2 | apply TD_e3)); ((with_reducible apply ES_callV (f := 148)); exact rfl; (intro w hw; exact hchk w (hw.rd rfl hA)); exact rfl); (first | exact rfl | exact ⟨rfl, rfl, rfl⟩); (rintro _ _ ⟨rfl, rfl⟩); (try refine ⟨SUB, ?_⟩)) | ((with_reducible (first | apply TD_e2z | apply TD_e3z | apply TL_e | apply TD_e2 | apply TD_e3)); ((with_reducible apply ES_callV (f := 69)); exact rfl; (intro w hw; exact hfit w); exact rfl); (first | exact rfl | exact ⟨rfl, rfl, rfl⟩); (rintro _ _ ⟨rfl, rfl⟩); (try refine ⟨SUB, ?_⟩)) | ((with_reducible (first | apply TD_e2z | apply TD_e3z | apply TL_e | apply TD_e2 | apply TD_e3)); ((with_reducible apply ES_callV (f := 70)); exact rfl; (intro w hw; exact harg w); exact rfl); (first | exact rfl | exact ⟨rfl, rfl, rfl⟩); (rintro _ _ ⟨rfl, rfl⟩); (try refine ⟨SUB, ?_⟩)) | ((with_reducible (first | apply TD_e2z | apply TD_e3z | apply TL_e | apply TD_e2 | apply TD_e3)); ((with_reducible apply ES_callV (f := 133)); exact rfl; (intro w hw; exact hof w); exact rfl); (first | exact rfl | exact ⟨rfl, rfl, rfl⟩); (rintro _ _ ⟨rfl, rfl⟩); (try refine ⟨SUB, ?_⟩)) | ((with_reducible (first | apply TD_e2z | apply TD_e3z | apply TL_e | apply TD_e2 | apply TD_e3)); ((with_reducible apply ES_callOwn (f := 149)); exact rfl; (intro w hw; exact hcl w (hw.rd rfl hA)); exact rfl); (first | exact rfl | exact ⟨rfl, rfl, rfl⟩); (rintro _ _ ⟨A1, c1, rfl, rfl⟩); (try refine ⟨SUB, ?_⟩)) | ((with_reducible (first | apply TD_e2z | apply TD_e3z | apply TL_e | apply TD_e2 | apply TD_e3)); ((with_reducible apply ES_invokeX (f := 171) (r := .agg #[]) (X := Option Addr × Nat) (S1 := [entOwn intEnc 1 3 A1 c1 s]) (stepV R) (fun x => [entRd intEnc 1 x.1 R.1])); exact rfl; exact ⟨fun w => by kernel_rfl⟩; exact rfl; ((repeat (first | exact Pull.nil _ | (apply Pull.cons; (repeat (first | with_reducible exact Pick.here _ _ | with_reducible apply Pick.there)))))); (intro x; (try dsimp only); repeat (first | exact AppL.nil _ | apply AppL.cons)); (intro w hw; exact hstep A1 c1 w ((hw.anyN 0).self 0)); exact rfl); (first | exact rfl | exact ⟨rfl, rfl, rfl⟩); (rintro _ _ ⟨⟨A', c'⟩, rfl, rfl⟩); (try refine ⟨SUB, ?_⟩)) | ((with_reducible (first | apply TD_e2z | apply TD_e3z | apply TL_e | apply TD_e2 | apply TD_e3)); ((with_reducible apply ES_callOwn (f := 149)); exact rfl; (intro w hw; exact clone_any _ _ R.1 w (hw.rdIn (by first | ((repeat (first | with_reducible exact List.mem_cons_self | with_reducible apply List.mem_cons_of_mem)); done) | (repeat (first | exact List.Mem.head _ | apply List.Mem.tail)))) hRl); exact rfl); (first | exact rfl | exact ⟨rfl, rfl, rfl⟩); (rintro _ _ ⟨A2, c2, rfl, rfl⟩); (try refine ⟨SUB, ?_⟩)) | fail)
        (refine At_ret Try.results145 rfl (fun w' hw => ?_))
        exact ⟨A2, c2, rfl, hw.ownOut rfl (by first | ((repeat (first | with_reducible exact List.mem_cons_self | with_reducible apply List.mem_cons_of_mem)); done) | (repeat (first | exact List.Mem.head _ | apply List.Mem.tail))), hw.below0 rfl⟩
      · have hof := fun w => of_any 3 w
        rw [show obV 3 = .iface 247 (.agg #[]) from rfl] at hof
        have hstep := fun A c w h => stackStep A c s kind a w hck.2.2 hck.2.1 h
        generalize stepP 3 s kind a = R at *
        refine calls_T (S := []) [] Try.func145 rfl Try.ntmps145 (by simp) (Mem.nil _) ?_
        repeat' (first | ((first | with_reducible (first | apply TL_q | apply TD_q0 | apply TD_q1 | apply TD_q2 | apply TD_q3) | ((with_reducible (first | apply TD_q0y | apply TD_q1y)); exact rfl; exact rfl; (with_reducible exact rfl))); (first | (first | ((with_reducible apply QS_makeInterface); exact rfl) | ((with_reducible apply QS_ifaceSome); exact rfl; exact rfl) | ((with_reducible apply QS_ifaceNil); exact rfl; exact rfl) | ((with_reducible apply QS_fieldZ); exact rfl; (first | ((repeat (first | with_reducible exact List.mem_cons_self | with_reducible apply List.mem_cons_of_mem)); done) | (repeat (first | exact List.Mem.head _ | apply List.Mem.tail)))) | ((with_reducible apply QS_load); exact rfl; exact Lds.zero _) | exact QS.auto) | ((with_reducible apply QS_nilCheckM); exact rfl; (intro w; kernel_rfl))); exact rfl) | (refine GG ?_) | (refine GE ?_; (first | (rintro _ _ ⟨rfl, rfl⟩) | (rintro _ _ ⟨g, rfl, rfl⟩) | (rintro _ _ ⟨A', c', rfl, rfl⟩)); (try refine ⟨SUB, ?_⟩)) | ((refine GO2 ?_ ?_) <;> intro h <;> (try (repeat (first | with_reducible (replace h := of_decide_eq_true h) | with_reducible (replace h := of_decide_eq_false h) | with_reducible (replace h := bnt h) | with_reducible (replace h := bnf h) | with_reducible (replace h := Int.not_lt.mp h) | with_reducible (replace h := Int.not_le.mp h) | with_reducible (replace h := band_dec h) | with_reducible (replace h := band_decF h) | with_reducible (replace h := bor_dec h) | with_reducible (replace h := bor_decF h)))) <;> (try (exfalso; first | contradiction | omega))) | (refine GOF ?_ ?_) | ((with_reducible apply T_draw (id := 6) 1000 (OT.seq [(0, 0), (0, 2), (0, 4), (0, 5), (2, 1), (0, 6), (0, 7), (0, 8), (2, 3), (2, 9), (0, 10), (0, 11), (0, 12), (0, 13), (0, 14), (0, 15), (0, 16)] .nil)); kernel_rfl; exact rfl; kernel_rfl; (repeat (first | with_reducible exact Blind.body | with_reducible apply Blind.seq | with_reducible apply Blind.block))) | ((with_reducible (first | apply TD_e2z | apply TD_e3z | apply TL_e | apply TD_e2 | apply TD_e3)); ((with_reducible apply ES_callV (f := 148)); exact rfl; (intro w hw; exact hchk w (hw.rd rfl hA)); exact rfl); (first | exact rfl | exact ⟨rfl, rfl, rfl⟩); (rintro _ _ ⟨rfl, rfl⟩); (try refine ⟨SUB, ?_⟩)) | ((with_reducible (first | apply TD_e2z | apply TD_e3z | apply TL_e | apply TD_e2 | apply TD_e3)); ((with_reducible apply ES_callV (f := 69)); exact rfl; (intro w hw; exact hfit w); exact rfl); (first | exact rfl | exact ⟨rfl, rfl, rfl⟩); (rintro _ _ ⟨rfl, rfl⟩); (try refine ⟨SUB, ?_⟩)) | ((with_reducible (first | apply TD_e2z | apply TD_e3z | apply TL_e | apply TD_e2 | apply TD_e3)); ((with_reducible apply ES_callV (f := 70)); exact rfl; (intro w hw; exact harg w); exact rfl); (first | exact rfl | exact ⟨rfl, rfl, rfl⟩); (rintro _ _ ⟨rfl, rfl⟩); (try refine ⟨SUB, ?_⟩)) | ((with_reducible (first | apply TD_e2z | apply TD_e3z | apply TL_e | apply TD_e2 | apply TD_e3)); ((with_reducible apply ES_callV (f := 133)); exact rfl; (intro w hw; exact hof w); exact rfl); (first | exact rfl | exact ⟨rfl, rfl, rfl⟩); (rintro _ _ ⟨rfl, rfl⟩); (try refine ⟨SUB, ?_⟩)) | ((with_reducible (first | apply TD_e2z | apply TD_e3z | apply TL_e | apply TD_e2 | apply TD_e3)); ((with_reducible apply ES_callOwn (f := 149)); exact rfl; (intro w hw; exact hcl w (hw.rd rfl hA)); exact rfl); (first | exact rfl | exact ⟨rfl, rfl, rfl⟩); (rintro _ _ ⟨A1, c1, rfl, rfl⟩); (try refine ⟨SUB, ?_⟩)) | ((with_reducible (first | apply TD_e2z | apply TD_e3z | apply TL_e | apply TD_e2 | apply TD_e3)); ((with_reducible apply ES_invokeX (f := 173) (r := .agg #[]) (X := Option Addr × Nat) (S1 := [entOwn intEnc 1 3 A1 c1 s]) (stepV R) (fun x => [entRd intEnc 1 x.1 R.1])); exact rfl; exact ⟨fun w => by kernel_rfl⟩; exact rfl; ((repeat (first | exact Pull.nil _ | (apply Pull.cons; (repeat (first | with_reducible exact Pick.here _ _ | with_reducible apply Pick.there)))))); (intro x; (try dsimp only); repeat (first | exact AppL.nil _ | apply AppL.cons)); (intro w hw; exact hstep A1 c1 w ((hw.anyN 0).self 0)); exact rfl); (first | exact rfl | exact ⟨rfl, rfl, rfl⟩); (rintro _ _ ⟨⟨A', c'⟩, rfl, rfl⟩); (try refine ⟨SUB, ?_⟩)) | ((with_reducible (first | apply TD_e2z | apply TD_e3z | apply TL_e | apply TD_e2 | apply TD_e3)); ((with_reducible apply ES_callOwn (f := 149)); exact rfl; (intro w hw; exact clone_any _ _ R.1 w (hw.rdIn (by first | ((repeat (first | with_reducible exact List.mem_cons_self | with_reducible apply List.mem_cons_of_mem)); done) | (repeat (first | exact List.Mem.head _ | apply List.Mem.tail)))) hRl); exact rfl); (first | exact rfl | exact ⟨rfl, rfl, rfl⟩); (rintro _ _ ⟨A2, c2, rfl, rfl⟩); (try refine ⟨SUB, ?_⟩)) | fail)
        (refine At_ret Try.results145 rfl (fun w' hw => ?_))
        exact ⟨A2, c2, rfl, hw.ownOut rfl (by first | ((repeat (first | with_reducible exact List.mem_cons_self | with_reducible apply List.mem_cons_of_mem)); done) | (repeat (first | exact List.Mem.head _ | apply List.Mem.tail))), hw.below0 rfl⟩
      · have hof := fun w => of_any 4 w
        rw [show obV 4 = .iface 248 (.agg #[]) from rfl] at hof
        have hstep := fun A c w h => setStep_any A c s kind a w hck.2.2 hck.2.1 h
        generalize stepP 4 s kind a = R at *
        refine calls_T (S := []) [] Try.func145 rfl Try.ntmps145 (by simp) (Mem.nil _) ?_
        repeat' (first | ((first | with_reducible (first | apply TL_q | apply TD_q0 | apply TD_q1 | apply TD_q2 | apply TD_q3) | ((with_reducible (first | apply TD_q0y | apply TD_q1y)); exact rfl; exact rfl; (with_reducible exact rfl))); (first | (first | ((with_reducible apply QS_makeInterface); exact rfl) | ((with_reducible apply QS_ifaceSome); exact rfl; exact rfl) | ((with_reducible apply QS_ifaceNil); exact rfl; exact rfl) | ((with_reducible apply QS_fieldZ); exact rfl; (first | ((repeat (first | with_reducible exact List.mem_cons_self | with_reducible apply List.mem_cons_of_mem)); done) | (repeat (first | exact List.Mem.head _ | apply List.Mem.tail)))) | ((with_reducible apply QS_load); exact rfl; exact Lds.zero _) | exact QS.auto) | ((with_reducible apply QS_nilCheckM); exact rfl; (intro w; kernel_rfl))); exact rfl) | (refine GG ?_) | (refine GE ?_; (first | (rintro _ _ ⟨rfl, rfl⟩) | (rintro _ _ ⟨g, rfl, rfl⟩) | (rintro _ _ ⟨A', c', rfl, rfl⟩)); (try refine ⟨SUB, ?_⟩)) | ((refine GO2 ?_ ?_) <;> intro h <;> (try (repeat (first | with_reducible (replace h := of_decide_eq_true h) | with_reducible (replace h := of_decide_eq_false h) | with_reducible (replace h := bnt h) | with_reducible (replace h := bnf h) | with_reducible (replace h := Int.not_lt.mp h) | with_reducible (replace h := Int.not_le.mp h) | with_reducible (replace h := band_dec h) | with_reducible (replace h := band_decF h) | with_reducible (replace h := bor_dec h) | with_reducible (replace h := bor_decF h)))) <;> (try (exfalso; first | contradiction | omega))) | (refine GOF ?_ ?_) | ((with_reducible apply T_draw (id := 6) 1000 (OT.seq [(0, 0), (0, 2), (0, 4), (0, 5), (2, 1), (0, 6), (0, 7), (0, 8), (2, 3), (2, 9), (0, 10), (0, 11), (0, 12), (0, 13), (0, 14), (0, 15), (0, 16)] .nil)); kernel_rfl; exact rfl; kernel_rfl; (repeat (first | with_reducible exact Blind.body | with_reducible apply Blind.seq | with_reducible apply Blind.block))) | ((with_reducible (first | apply TD_e2z | apply TD_e3z | apply TL_e | apply TD_e2 | apply TD_e3)); ((with_reducible apply ES_callV (f := 148)); exact rfl; (intro w hw; exact hchk w (hw.rd rfl hA)); exact rfl); (first | exact rfl | exact ⟨rfl, rfl, rfl⟩); (rintro _ _ ⟨rfl, rfl⟩); (try refine ⟨SUB, ?_⟩)) | ((with_reducible (first | apply TD_e2z | apply TD_e3z | apply TL_e | apply TD_e2 | apply TD_e3)); ((with_reducible apply ES_callV (f := 69)); exact rfl; (intro w hw; exact hfit w); exact rfl); (first | exact rfl | exact ⟨rfl, rfl, rfl⟩); (rintro _ _ ⟨rfl, rfl⟩); (try refine ⟨SUB, ?_⟩)) | ((with_reducible (first | apply TD_e2z | apply TD_e3z | apply TL_e | apply TD_e2 | apply TD_e3)); ((with_reducible apply ES_callV (f := 70)); exact rfl; (intro w hw; exact harg w); exact rfl); (first | exact rfl | exact ⟨rfl, rfl, rfl⟩); (rintro _ _ ⟨rfl, rfl⟩); (try refine ⟨SUB, ?_⟩)) | ((with_reducible (first | apply TD_e2z | apply TD_e3z | apply TL_e | apply TD_e2 | apply TD_e3)); ((with_reducible apply ES_callV (f := 133)); exact rfl; (intro w hw; exact hof w); exact rfl); (first | exact rfl | exact ⟨rfl, rfl, rfl⟩); (rintro _ _ ⟨rfl, rfl⟩); (try refine ⟨SUB, ?_⟩)) | ((with_reducible (first | apply TD_e2z | apply TD_e3z | apply TL_e | apply TD_e2 | apply TD_e3)); ((with_reducible apply ES_callOwn (f := 149)); exact rfl; (intro w hw; exact hcl w (hw.rd rfl hA)); exact rfl); (first | exact rfl | exact ⟨rfl, rfl, rfl⟩); (rintro _ _ ⟨A1, c1, rfl, rfl⟩); (try refine ⟨SUB, ?_⟩)) | ((with_reducible (first | apply TD_e2z | apply TD_e3z | apply TL_e | apply TD_e2 | apply TD_e3)); ((with_reducible apply ES_invokeX (f := 174) (r := .agg #[]) (X := Option Addr × Nat) (S1 := [entOwn intEnc 1 3 A1 c1 s]) (stepV R) (fun x => [entRd intEnc 1 x.1 R.1])); exact rfl; exact ⟨fun w => by kernel_rfl⟩; exact rfl; ((repeat (first | exact Pull.nil _ | (apply Pull.cons; (repeat (first | with_reducible exact Pick.here _ _ | with_reducible apply Pick.there)))))); (intro x; (try dsimp only); repeat (first | exact AppL.nil _ | apply AppL.cons)); (intro w hw; exact hstep A1 c1 w ((hw.anyN 0).self 0)); exact rfl); (first | exact rfl | exact ⟨rfl, rfl, rfl⟩); (rintro _ _ ⟨⟨A', c'⟩, rfl, rfl⟩); (try refine ⟨SUB, ?_⟩)) | ((with_reducible (first | apply TD_e2z | apply TD_e3z | apply TL_e | apply TD_e2 | apply TD_e3)); ((with_reducible apply ES_callOwn (f := 149)); exact rfl; (intro w hw; exact clone_any _ _ R.1 w (hw.rdIn (by first | ((repeat (first | with_reducible exact List.mem_cons_self | with_reducible apply List.mem_cons_of_mem)); done) | (repeat (first | exact List.Mem.head _ | apply List.Mem.tail)))) hRl); exact rfl); (first | exact rfl | exact ⟨rfl, rfl, rfl⟩); (rintro _ _ ⟨A2, c2, rfl, rfl⟩); (try refine ⟨SUB, ?_⟩)) | fail)
        (refine At_ret Try.results145 rfl (fun w' hw => ?_))
        exact ⟨A2, c2, rfl, hw.ownOut rfl (by first | ((repeat (first | with_reducible exact List.mem_cons_self | with_reducible apply List.mem_cons_of_mem)); done) | (repeat (first | exact List.Mem.head _ | apply List.Mem.tail))), hw.below0 rfl⟩
      · have hof := fun w => of_any 5 w
        rw [show obV 5 = .iface 249 (.agg #[]) from rfl] at hof
        have hstep := fun A c w h => ticketStep A c s kind a w hck.2.2 hck.2.1 h
        generalize stepP 5 s kind a = R at *
        refine calls_T (S := []) [] Try.func145 rfl Try.ntmps145 (by simp) (Mem.nil _) ?_
        repeat' (first | ((first | with_reducible (first | apply TL_q | apply TD_q0 | apply TD_q1 | apply TD_q2 | apply TD_q3) | ((with_reducible (first | apply TD_q0y | apply TD_q1y)); exact rfl; exact rfl; (with_reducible exact rfl))); (first | (first | ((with_reducible apply QS_makeInterface); exact rfl) | ((with_reducible apply QS_ifaceSome); exact rfl; exact rfl) | ((with_reducible apply QS_ifaceNil); exact rfl; exact rfl) | ((with_reducible apply QS_fieldZ); exact rfl; (first | ((repeat (first | with_reducible exact List.mem_cons_self | with_reducible apply List.mem_cons_of_mem)); done) | (repeat (first | exact List.Mem.head _ | apply List.Mem.tail)))) | ((with_reducible apply QS_load); exact rfl; exact Lds.zero _) | exact QS.auto) | ((with_reducible apply QS_nilCheckM); exact rfl; (intro w; kernel_rfl))); exact rfl) | (refine GG ?_) | (refine GE ?_; (first | (rintro _ _ ⟨rfl, rfl⟩) | (rintro _ _ ⟨g, rfl, rfl⟩) | (rintro _ _ ⟨A', c', rfl, rfl⟩)); (try refine ⟨SUB, ?_⟩)) | ((refine GO2 ?_ ?_) <;> intro h <;> (try (repeat (first | with_reducible (replace h := of_decide_eq_true h) | with_reducible (replace h := of_decide_eq_false h) | with_reducible (replace h := bnt h) | with_reducible (replace h := bnf h) | with_reducible (replace h := Int.not_lt.mp h) | with_reducible (replace h := Int.not_le.mp h) | with_reducible (replace h := band_dec h) | with_reducible (replace h := band_decF h) | with_reducible (replace h := bor_dec h) | with_reducible (replace h := bor_decF h)))) <;> (try (exfalso; first | contradiction | omega))) | (refine GOF ?_ ?_) | ((with_reducible apply T_draw (id := 6) 1000 (OT.seq [(0, 0), (0, 2), (0, 4), (0, 5), (2, 1), (0, 6), (0, 7), (0, 8), (2, 3), (2, 9), (0, 10), (0, 11), (0, 12), (0, 13), (0, 14), (0, 15), (0, 16)] .nil)); kernel_rfl; exact rfl; kernel_rfl; (repeat (first | with_reducible exact Blind.body | with_reducible apply Blind.seq | with_reducible apply Blind.block))) | ((with_reducible (first | apply TD_e2z | apply TD_e3z | apply TL_e | apply TD_e2 | apply TD_e3)); ((with_reducible apply ES_callV (f := 148)); exact rfl; (intro w hw; exact hchk w (hw.rd rfl hA)); exact rfl); (first | exact rfl | exact ⟨rfl, rfl, rfl⟩); (rintro _ _ ⟨rfl, rfl⟩); (try refine ⟨SUB, ?_⟩)) | ((with_reducible (first | apply TD_e2z | apply TD_e3z | apply TL_e | apply TD_e2 | apply TD_e3)); ((with_reducible apply ES_callV (f := 69)); exact rfl; (intro w hw; exact hfit w); exact rfl); (first | exact rfl | exact ⟨rfl, rfl, rfl⟩); (rintro _ _ ⟨rfl, rfl⟩); (try refine ⟨SUB, ?_⟩)) | ((with_reducible (first | apply TD_e2z | apply TD_e3z | apply TL_e | apply TD_e2 | apply TD_e3)); ((with_reducible apply ES_callV (f := 70)); exact rfl; (intro w hw; exact harg w); exact rfl); (first | exact rfl | exact ⟨rfl, rfl, rfl⟩); (rintro _ _ ⟨rfl, rfl⟩); (try refine ⟨SUB, ?_⟩)) | ((with_reducible (first | apply TD_e2z | apply TD_e3z | apply TL_e | apply TD_e2 | apply TD_e3)); ((with_reducible apply ES_callV (f := 133)); exact rfl; (intro w hw; exact hof w); exact rfl); (first | exact rfl | exact ⟨rfl, rfl, rfl⟩); (rintro _ _ ⟨rfl, rfl⟩); (try refine ⟨SUB, ?_⟩)) | ((with_reducible (first | apply TD_e2z | apply TD_e3z | apply TL_e | apply TD_e2 | apply TD_e3)); ((with_reducible apply ES_callOwn (f := 149)); exact rfl; (intro w hw; exact hcl w (hw.rd rfl hA)); exact rfl); (first | exact rfl | exact ⟨rfl, rfl, rfl⟩); (rintro _ _ ⟨A1, c1, rfl, rfl⟩); (try refine ⟨SUB, ?_⟩)) | ((with_reducible (first | apply TD_e2z | apply TD_e3z | apply TL_e | apply TD_e2 | apply TD_e3)); ((with_reducible apply ES_invokeX (f := 184) (r := .agg #[]) (X := Option Addr × Nat) (S1 := [entOwn intEnc 1 3 A1 c1 s]) (stepV R) (fun x => [entRd intEnc 1 x.1 R.1])); exact rfl; exact ⟨fun w => by kernel_rfl⟩; exact rfl; ((repeat (first | exact Pull.nil _ | (apply Pull.cons; (repeat (first | with_reducible exact Pick.here _ _ | with_reducible apply Pick.there)))))); (intro x; (try dsimp only); repeat (first | exact AppL.nil _ | apply AppL.cons)); (intro w hw; exact hstep A1 c1 w ((hw.anyN 0).self 0)); exact rfl); (first | exact rfl | exact ⟨rfl, rfl, rfl⟩); (rintro _ _ ⟨⟨A', c'⟩, rfl, rfl⟩); (try refine ⟨SUB, ?_⟩)) | ((with_reducible (first | apply TD_e2z | apply TD_e3z | apply TL_e | apply TD_e2 | apply TD_e3)); ((with_reducible apply ES_callOwn (f := 149)); exact rfl; (intro w hw; exact clone_any _ _ R.1 w (hw.rdIn (by first | ((repeat (first | with_reducible exact List.mem_cons_self | with_reducible apply List.mem_cons_of_mem)); done) | (repeat (first | exact List.Mem.head _ | apply List.Mem.tail)))) hRl); exact rfl); (first | exact rfl | exact ⟨rfl, rfl, rfl⟩); (rintro _ _ ⟨A2, c2, rfl, rfl⟩); (try refine ⟨SUB, ?_⟩)) | fail)
        (refine At_ret Try.results145 rfl (fun w' hw => ?_))
        exact ⟨A2, c2, rfl, hw.ownOut rfl (by first | ((repeat (first | with_reducible exact List.mem_cons_self | with_reducible apply List.mem_cons_of_mem)); done) | (repeat (first | exact List.Mem.head _ | apply List.Mem.tail))), hw.below0 rfl⟩
      · rw [hb] at hck; exact absurd hck.1 (by decide)
    · rw [if_neg hz]
      refine calls_T (S := []) [] Try.func145 rfl Try.ntmps145 (by simp) (Mem.nil _) ?_
      repeat' (first | ((first | with_reducible (first | apply TL_q | apply TD_q0 | apply TD_q1 | apply TD_q2 | apply TD_q3) | ((with_reducible (first | apply TD_q0y | apply TD_q1y)); exact rfl; exact rfl; (with_reducible exact rfl))); (first | (first | ((with_reducible apply QS_makeInterface); exact rfl) | ((with_reducible apply QS_ifaceSome); exact rfl; exact rfl) | ((with_reducible apply QS_ifaceNil); exact rfl; exact rfl) | ((with_reducible apply QS_fieldZ); exact rfl; (first | ((repeat (first | with_reducible exact List.mem_cons_self | with_reducible apply List.mem_cons_of_mem)); done) | (repeat (first | exact List.Mem.head _ | apply List.Mem.tail)))) | ((with_reducible apply QS_load); exact rfl; exact Lds.zero _) | exact QS.auto) | ((with_reducible apply QS_nilCheckM); exact rfl; (intro w; kernel_rfl))); exact rfl) | (refine GO ?_) | (refine GOE ?_; (first | (rintro _ _ ⟨rfl, rfl⟩) | (rintro _ _ ⟨g, rfl, rfl⟩) | (rintro _ _ ⟨A', c', rfl, rfl⟩))) | ((refine GO2 ?_ ?_) <;> intro h <;> (try (repeat (first | with_reducible (replace h := of_decide_eq_true h) | with_reducible (replace h := of_decide_eq_false h) | with_reducible (replace h := bnt h) | with_reducible (replace h := bnf h) | with_reducible (replace h := Int.not_lt.mp h) | with_reducible (replace h := Int.not_le.mp h) | with_reducible (replace h := band_dec h) | with_reducible (replace h := band_decF h) | with_reducible (replace h := bor_dec h) | with_reducible (replace h := bor_decF h)))) <;> (try (exfalso; first | contradiction | omega))) | ((with_reducible (first | apply TD_e2z | apply TD_e3z | apply TL_e | apply TD_e2 | apply TD_e3)); ((with_reducible apply ES_callV (f := 148)); exact rfl; (intro w hw; exact hchk w (hw.rd rfl hA)); exact rfl); (first | exact rfl | exact ⟨rfl, rfl, rfl⟩); (rintro _ _ ⟨rfl, rfl⟩); (try refine ⟨SUB, ?_⟩)) | ((with_reducible (first | apply TD_e2z | apply TD_e3z | apply TL_e | apply TD_e2 | apply TD_e3)); ((with_reducible apply ES_callV (f := 69)); exact rfl; (intro w hw; exact hfit w); exact rfl); (first | exact rfl | exact ⟨rfl, rfl, rfl⟩); (rintro _ _ ⟨rfl, rfl⟩); (try refine ⟨SUB, ?_⟩)) | ((with_reducible (first | apply TD_e2z | apply TD_e3z | apply TL_e | apply TD_e2 | apply TD_e3)); ((with_reducible apply ES_callV (f := 70)); exact rfl; (intro w hw; exact harg w); exact rfl); (first | exact rfl | exact ⟨rfl, rfl, rfl⟩); (rintro _ _ ⟨rfl, rfl⟩); (try refine ⟨SUB, ?_⟩)) | fail)
      all_goals first
        | ((refine At_ret Try.results145 rfl (fun w' hw => ?_))
           exact ⟨none, 0, rfl, Own.nil _ _, hw.below0 rfl⟩)
        | (exfalso; simp_all; done)
  · have hO : stepO typ s kind a = ([], 0, chkS typ s) := by unfold stepO; rw [if_neg h0]
    rw [hO]
    generalize chkS typ s = q at *
    refine calls_T (S := []) [] Try.func145 rfl Try.ntmps145 (by simp) (Mem.nil _) ?_
    repeat' (first | ((first | with_reducible (first | apply TL_q | apply TD_q0 | apply TD_q1 | apply TD_q2 | apply TD_q3) | ((with_reducible (first | apply TD_q0y | apply TD_q1y)); exact rfl; exact rfl; (with_reducible exact rfl))); (first | (first | ((with_reducible apply QS_makeInterface); exact rfl) | ((with_reducible apply QS_ifaceSome); exact rfl; exact rfl) | ((with_reducible apply QS_ifaceNil); exact rfl; exact rfl) | ((with_reducible apply QS_fieldZ); exact rfl; (first | ((repeat (first | with_reducible exact List.mem_cons_self | with_reducible apply List.mem_cons_of_mem)); done) | (repeat (first | exact List.Mem.head _ | apply List.Mem.tail)))) | ((with_reducible apply QS_load); exact rfl; exact Lds.zero _) | exact QS.auto) | ((with_reducible apply QS_nilCheckM); exact rfl; (intro w; kernel_rfl))); exact rfl) | (refine GO ?_) | (refine GOE ?_; (first | (rintro _ _ ⟨rfl, rfl⟩) | (rintro _ _ ⟨g, rfl, rfl⟩) | (rintro _ _ ⟨A', c', rfl, rfl⟩))) | ((refine GO2 ?_ ?_) <;> intro h <;> (try (repeat (first | with_reducible (replace h := of_decide_eq_true h) | with_reducible (replace h := of_decide_eq_false h) | with_reducible (replace h := bnt h) | with_reducible (replace h := bnf h) | with_reducible (replace h := Int.not_lt.mp h) | with_reducible (replace h := Int.not_le.mp h) | with_reducible (replace h := band_dec h) | with_reducible (replace h := band_decF h) | with_reducible (replace h := bor_dec h) | with_reducible (replace h := bor_decF h)))) <;> (try (exfalso; first | contradiction | omega))) | ((with_reducible (first | apply TD_e2z | apply TD_e3z | apply TL_e | apply TD_e2 | apply TD_e3)); ((with_reducible apply ES_callV (f := 148)); exact rfl; (intro w hw; exact hchk w (hw.rd rfl hA)); exact rfl); (first | exact rfl | exact ⟨rfl, rfl, rfl⟩); (rintro _ _ ⟨rfl, rfl⟩); (try refine ⟨SUB, ?_⟩)) | ((with_reducible (first | apply TD_e2z | apply TD_e3z | apply TL_e | apply TD_e2 | apply TD_e3)); ((with_reducible apply ES_callV (f := 69)); exact rfl; (intro w hw; exact hfit w); exact rfl); (first | exact rfl | exact ⟨rfl, rfl, rfl⟩); (rintro _ _ ⟨rfl, rfl⟩); (try refine ⟨SUB, ?_⟩)) | ((with_reducible (first | apply TD_e2z | apply TD_e3z | apply TL_e | apply TD_e2 | apply TD_e3)); ((with_reducible apply ES_callV (f := 70)); exact rfl; (intro w hw; exact harg w); exact rfl); (first | exact rfl | exact ⟨rfl, rfl, rfl⟩); (rintro _ _ ⟨rfl, rfl⟩); (try refine ⟨SUB, ?_⟩)) | fail)
    all_goals first
      | ((refine At_ret Try.results145 rfl (fun w' hw => ?_))
         exact ⟨none, 0, rfl, Own.nil _ _, hw.below0 rfl⟩)
      | (exfalso; omega)
end
end Go.Proofs.Ytnflkmjfhbfekaa

namespace Go.Proofs.Ytnflkmjfhbfekaa
open Go.RowKit

theorem stepped_any (A : Option Addr) (c : Nat) (s : List Int) (typ kind a : Int) (w : World) (hA : RdInt w A s) (hAn : A = none → c = 0) (hc : s.length ≤ c) (hck : chkS typ s = 0) (hf : fitB typ kind) :
    Calls Try.prog 65 #[.slice A s.length c, .int .i64 kind, .int .i64 a] w (StepdPost w A s (stepP typ s kind a)) := by
  obtain ⟨_, hl, hv⟩ := chkS_ok hck
  have hse := step_eq (a := a) hv hf
  rcases hf with ⟨rfl, rfl | rfl⟩ | ⟨rfl, rfl | rfl⟩ | ⟨rfl, rfl | rfl⟩ | ⟨rfl, hk⟩ | ⟨rfl, rfl⟩
  · exact stepd_1 A c s a w
  · have h1 : oneB s = true := hv
    simp only [oneB, Bool.and_eq_true, decide_eq_true_eq] at h1
    exact stepd_2 A c s a w hA hAn hc (by omega)
  · have e : stepP 2 s 3 a = putR s a := by simp [stepP, putR]
    rw [e]; exact stepd_put A c s a w hA hAn hl 3 (.inl rfl)
  · have e : stepP 2 s 4 a = if s.length = 0 then (s, -1, 0) else (s.drop 1, s.getD 0 0, 0) := by simp [stepP]
    rw [e]; exact stepd_4 A c s a w hA hAn hc hl
  · have e : stepP 3 s 5 a = putR s a := by simp [stepP, putR]
    rw [e]; exact stepd_put A c s a w hA hAn hl 5 (.inr rfl)
  · have e : stepP 3 s 6 a = if s.length = 0 then (s, -1, 0) else (s.take (s.length - 1), s.getD (s.length - 1) 0, 0) := by simp [stepP]
    rw [e]; exact stepd_6 A c s a w hA hAn hc hl
  · rw [← hse]
    have e : stepR s kind a = if kind = 7 ∧ s.contains a = false ∧ s.length = 50 then ([], 0, 2) else ((setR s kind a).1, (setR s kind a).2, 0) := by
      unfold stepR
      have h3 : kind ≠ 3 := by omega
      have h5 : kind ≠ 5 := by omega
      have h10 : kind ≠ 10 := by omega
      have h1 : kind ≠ 1 := by omega
      have h2 : kind ≠ 2 := by omega
      have h4 : kind ≠ 4 := by omega
      have h6 : kind ≠ 6 := by omega
      simp only [h3, h5, h10, h1, h2, h4, h6, false_or, false_and, or_false, if_false, and_assoc]
    rw [e]
    exact stepd_set A c s a kind w hA hl hk
  · have h1 : oneB s = true := hv
    simp only [oneB, Bool.and_eq_true, decide_eq_true_eq] at h1
    obtain ⟨x, rfl⟩ := List.length_eq_one_iff.1 h1.1
    have h2 : 0 ≤ x ∧ x ≤ 1000 := h1.2
    have e : stepP 5 [x] 10 a = if x = 1000 then ([], 0, 2) else ([x + 1], x, 0) := by simp [stepP]
    rw [e]
    exact stepd_10 A c [x] a w hA x rfl h2
/-! lists of what is done -/
structure Dn where
  kind : Int
  arg : Int
  res : Int
  deriving Inhabited
def Dn.enc (d : Dn) : List Value := [.int .i64 d.kind, .int .i64 d.arg, .int .i64 d.res]
abbrev RdDo (w : World) (A : Option Addr) (l : List Dn) : Prop := RdE Dn.enc 3 w A l
/-- what is right goes on -/
def goesO (typ : Int) (s : List Int) (d : Dn) : Bool := decide ((stepO typ s d.kind d.arg).2.2 = 0 ∧ (stepO typ s d.kind d.arg).2.1 = d.res)
def playN (typ : Int) : List Int → List Dn → Nat
  | _, [] => 0
  | s, d :: l => if goesO typ s d = true then playN typ (stepO typ s d.kind d.arg).1 l + 1 else 0
def stAt (typ : Int) (s : List Int) : List Dn → List Int
  | [] => s
  | d :: l => stAt typ (stepO typ s d.kind d.arg).1 l
end Go.Proofs.Ytnflkmjfhbfekaa

namespace Go.Proofs.Ytnflkmjfhbfekaa
open Go.RowKit

theorem stepO_ok {typ : Int} {s : List Int} {k a : Int} (he : (stepO typ s k a).2.2 = 0) : chkS typ s = 0 ∧ fitB typ k ∧ argB k a = true ∧ stepO typ s k a = stepP typ s k a := by
  unfold stepO at he ⊢
  by_cases h0 : chkS typ s = 0
  · rw [if_pos h0] at he ⊢
    by_cases h1 : ((kindsL typ).contains k && argB k a) = true
    · rw [if_pos h1] at he ⊢
      rw [Bool.and_eq_true] at h1
      exact ⟨h0, kinds_fit h1.1, h1.2, rfl⟩
    · rw [if_neg h1] at he; cases he
  · rw [if_neg h0] at he
    exact absurd he h0
theorem goes_ok {typ : Int} {s : List Int} {d : Dn} (h : goesO typ s d = true) : chkS typ (stepO typ s d.kind d.arg).1 = 0 := by
  unfold goesO at h
  simp only [decide_eq_true_eq] at h
  obtain ⟨h0, h1, h2, h3⟩ := stepO_ok h.1
  rw [h3]
  rw [h3] at h
  exact step_valid h0 h1 h2 h.1
theorem begL_ok {typ : Int} (h : typB typ = true) : chkS typ (begL typ) = 0 := by
  rcases typ_cases typ with rfl | rfl | rfl | rfl | rfl | ⟨hb, _⟩
  · rfl
  · rfl
  · rfl
  · rfl
  · rfl
  · rw [hb] at h; cases h
/-- a step out of what lies in blocks of one's own -/
theorem stepped_mem {C : Ctx} {R : List Ent} {w : World} {A : Option Addr} {c : Nat} {s : List Int} {typ kind a : Int} (hw : Mem C w ([entRd intEnc 1 A s] ++ R)) (hAn : A = none → c = 0) (hc : s.length ≤ c) (hck : chkS typ s = 0) (hf : fitB typ kind) :
    Calls Try.prog 65 #[.slice A s.length c, .int .i64 kind, .int .i64 a] w fun e w' =>
      ∃ x : {x : Option Addr × Nat // (x.1 = none → x.2 = 0) ∧ (stepP typ s kind a).1.length ≤ x.2}, e = .returned (stepV (stepP typ s kind a) x.1) ∧ Mem ⟨0, blks [entRd intEnc 1 A s], w⟩ w' [entRd intEnc 1 x.1.1 (stepP typ s kind a).1] := by
  have hrd := hw.rdIn (enc := intEnc) (M := 1) (A := A) (l := s) (by simp)
  refine (stepped_any A c s typ kind a w hrd hAn hc hck hf).mono ?_
  rintro e w' ⟨x, rfl, hx, hb⟩
  rcases hx with ho | ⟨hr, hblk, hle, hxn⟩
  · refine ⟨⟨x, (Own.facts ho).2, (Own.facts ho).1⟩, rfl, ?_⟩
    have := (Mem.ofOwn hb ho).ownToRd (enc := intEnc) (M := 1) (et := 3) (c := x.2) (A := x.1) (ls := (stepP typ s kind a).1) (by simp) (fun _ => rfl)
    exact this.widen (by simp)
  · refine ⟨⟨x, hxn, hle⟩, rfl, ?_⟩
    have h1 : Mem ⟨0, blks [entRd intEnc 1 A s], w⟩ w' [entRd intEnc 1 A s] := ((hw.anyN 0).self 0).below hb
    exact h1.toRd (e := entRd intEnc 1 A s) (by simp) (fun g hg => by
      show A.map (·.block) = some g
      rw [← hblk]; exact hg) ((hr w hrd).below hb)
end Go.Proofs.Ytnflkmjfhbfekaa

namespace Go.Proofs.Ytnflkmjfhbfekaa
open Go.ChangeShapes Go.WideShapes Go.ChangeAt Go.RowKit Go.Deep

section
variable {H : Type} {enc : TypeId × Value → H} {P : Program}

/-- arguments read on as they read, where what was there is as it was -/
theorem trodAll_kept (hl : laidOutB P = true) {W W' : World} (hb : Below W.heap.size W W') {sp : Nat → Bool} :
    ∀ {ts : List TypeId} {vs : List Value} {ds : List (DataW H)} {p : List MemPlace}, (∀ t ∈ ts, P.readableRec t = true ∧ t < P.types.size) → (∀ x ∈ p, x.block < W.heap.size) → (∀ x ∈ p, sp x.block = true) →
      DataW.TrodAll enc P W 0 (fun _ => true) true ts vs ds p → DataW.TrodAll enc P W' 0 sp true ts vs ds p
  | [], _, _, _, _, _, _, h => by
    obtain ⟨rfl, rfl, rfl⟩ := trodAll_nil h
    exact trodAll_mk0
  | t :: ts, _, _, _, ht, hp, hs, h => by
    obtain ⟨v, vs, d, ds, a, b, rfl, rfl, rfl, h1, h2⟩ := trodAll_cons h
    obtain ⟨hr, hrow⟩ := ht t (List.mem_cons_self ..)
    refine ⟨a, b, WideElems.Trod_stays hl hr hrow h1 (fun x hx => hb.same (hp x (List.mem_append_left _ hx))) (fun x hx => hs x (List.mem_append_left _ hx)), ?_, rfl⟩
    exact trodAll_kept hl hb (fun t' h' => ht t' (List.mem_cons_of_mem _ h')) (fun x hx => hp x (List.mem_append_right _ hx)) (fun x hx => hs x (List.mem_append_right _ hx)) h2

/-- a law's row behind a walk that ends in 'true' -/
theorem law_post {f : Func} {s : ChangeSpec} {W W' : World} {args : Array Value} {tb : TypeId} {ds gs : List (DataW H)} {before : List MemPlace}
    (hl : laidOutB P = true) (hr : (f.params.toList.all fun t => P.readableRec t && decide (t < P.types.size)) = true) (hv : s.vars = []) (hrt : f.resultTypes = #[tb]) (htb : P.underlying tb = some .bool)
    (hW : DataW.Whole enc P f.params.toList s.vars false W args.toList ds gs before)
    (hs : gs = [] → s.fn H (ds ++ gs) = { results := [.lit (.bool true)], args := ds })
    (hb : Below W.heap.size W W') : s.post enc P f false true false false W args (.bool true) W' := by
  have hlt : ∀ p ∈ before, p.block < W.heap.size := fun p hp => hW.lt p hp
  have hW' := hW
  obtain ⟨p, q, hA, hV, rfl, hfz, hnd⟩ := hW
  rw [hv] at hV
  obtain ⟨rfl, rfl⟩ := trodVars_none hV
  simp only [List.append_nil] at hlt
  have hf := hs rfl
  have hfv : (s.fn H (ds ++ [])).vars = [] := by rw [hf]
  have hr' : ∀ t ∈ f.params.toList, P.readableRec t = true ∧ t < P.types.size := fun t ht => by
    have := List.all_eq_true.1 hr t ht
    simpa using this
  refine ⟨ds, [], p ++ [], [], p, [], hW', ?_, ?_, ?_, ?_, fun h => by cases h⟩
  · rw [hf, hrt]
    exact trodAll_mk1 (shut_bool htb _)
  · rw [hf]
    exact trodAll_kept hl hb hr' hlt (fun x hx => by simpa using hlt x hx) hA
  · rw [hv, hfv]; exact rfl
  · exact hb.frame _

/-- a slice of structs whose fields are all ints: each field of each element by its place -/
theorem open_int_rows {w : World} {base : Nat} {spare : Nat → Bool} {held : Bool} {t e ti : TypeId} {fs : Array Field} {fuel : Nat} {cs : List Value} {x : DataW H × List MemPlace}
    (ht : P.underlying t = some (.slice e)) (he : P.underlying e = some (.struct fs)) (hone : oneCellFields P fs = true) (hC : P.cellsOf e = fs.size) (hti : P.underlying ti = some (.int .i64)) (hfs : (fs.toList.all fun f => f.type == ti) = true)
    (h : DataW.trod enc P w base spare held fuel t cs = some x) :
    ∃ (A : Option Addr) (len cap : Nat) (Z : Nat → Nat → Int), cs = [.slice A len cap] ∧ len ≤ maxLen ∧ len ≤ cap ∧
      ∀ i, i < len → ∀ j, j < fs.size → (Lit.int .i64 (Z i j)).wf = true ∧ ∃ b o, A = some ⟨b, o, none⟩ ∧ b < w.heap.size ∧ w.cell? ⟨b, o + i * fs.size + j, none⟩ = some (.int .i64 (Z i j)) := by
  rcases open_slice ht h with ⟨rfl, rfl⟩ | ⟨a, len, cap, m, n, D, Pl, rfl, hb, hl, hm, hmm, hx, hi⟩
  · exact ⟨none, 0, 0, fun _ _ => 0, rfl, by omega, by omega, fun i hi => by omega⟩
  have hlm : len ≤ m := by rw [hmm]; split <;> omega
  have key : ∀ i, i < len → ∀ j, j < fs.size → ∃ z, (Lit.int .i64 z).wf = true ∧ w.cell? (a.add (i * fs.size + j)) = some (.int .i64 z) := by
    intro i hil j hj
    obtain ⟨cs', hc, htr⟩ := hi i (by omega)
    rw [hC] at hc
    obtain ⟨ys, n', _, _, hlen, _, hf⟩ := DataW.trod_struct he htr
    obtain ⟨_, _, hat⟩ := World.cells?_some hc
    obtain ⟨ho, hk⟩ := hone_of hone j fs[j] (by simp [hj])
    have hty : fs[j].type = ti := by
      have := List.all_eq_true.1 hfs fs[j] (by simp)
      simpa using this
    have h1 := hf j fs[j] (by simp [hj])
    rw [ho, hk] at h1
    have hl' : cs'.length = fs.size := by rw [hlen, hC]
    have hd : (cs'.drop j).take 1 = [cs'[j]'(by omega)] := by
      rw [List.drop_eq_getElem_cons (by omega)]
      rfl
    rw [hd, hty] at h1
    have hys : ys[j]? = some (ys[j]'(by omega)) := List.getElem?_eq_getElem (by omega)
    obtain ⟨z, hz1, _, hwf⟩ := DataW.trod_int hti (h1.trans hys)
    refine ⟨z, hwf, ?_⟩
    rw [← Go.Deep.add_add, hat j hj, List.getElem?_eq_getElem (by omega)]
    simpa using hz1
  have hfun : ∃ Z : Nat → Nat → Int, ∀ i, i < len → ∀ j, j < fs.size → (Lit.int .i64 (Z i j)).wf = true ∧ w.cell? (a.add (i * fs.size + j)) = some (.int .i64 (Z i j)) := by
    classical
    refine ⟨fun i j => if hh : i < len ∧ j < fs.size then Classical.choose (key i hh.1 j hh.2) else 0, fun i hi' j hj => ?_⟩
    simp only [dif_pos (show i < len ∧ j < fs.size from ⟨hi', hj⟩)]
    exact Classical.choose_spec (key i hi' j hj)
  obtain ⟨Z, hZ⟩ := hfun
  refine ⟨some a, len, cap, Z, rfl, by omega, hl, fun i hi' j hj => ⟨(hZ i hi' j hj).1, a.block, a.off, ?_, ?_, ?_⟩⟩
  · have := (hZ i hi' j hj).2
    have hsp : a.spot = none := by
      obtain ⟨ab, ao, spo⟩ := a
      cases spo with
      | none => rfl
      | some s =>
        have h0 := (hZ i hi' 0 (by omega)).2
        have h00 := (hZ 0 (by omega) 0 (by omega)).2
        simp [Addr.add, World.cell?] at h00
        split at h00 <;> simp_all
    cases a; simp_all
  · have := block_lt_of_cell (hZ i hi' j hj).2
    unfold Addr.add at this
    split at this <;> exact this
  · have h1 := (hZ i hi' j hj).2
    have h0 := (hZ 0 (by omega) 0 (by omega)).2
    rw [← h1]
    congr 1
    unfold Addr.add
    split
    · rename_i h2
      obtain ⟨ab, ao, spo⟩ := a
      cases spo with
      | none => simp; omega
      | some s => simp [Addr.add, World.cell?] at h0; split at h0 <;> simp_all
    · simp [Nat.add_assoc]
end

/-- the rows so opened read as a list of whatever is made of their fields -/
theorem rdE_of_rows {α : Type} {w : World} {A : Option Addr} {n m : Nat} {Z : Nat → Nat → Int} (mk : (Nat → Int) → α) (enc : α → List Value) (hm : 0 < m)
    (henc : ∀ z : Nat → Int, ∀ j v, (enc (mk z))[j]? = some v → j < m ∧ v = .int .i64 (z j))
    (hZ : ∀ i, i < n → ∀ j, j < m → (Lit.int .i64 (Z i j)).wf = true ∧ ∃ b o, A = some ⟨b, o, none⟩ ∧ b < w.heap.size ∧ w.cell? ⟨b, o + i * m + j, none⟩ = some (.int .i64 (Z i j))) :
    RdE enc m w A ((List.range n).map fun i => mk (Z i)) := by
  intro i x hx
  have hi : i < n := by
    have := (List.getElem?_eq_some_iff.1 hx).1
    simpa using this
  have hx' : mk (Z i) = x := by simpa [hi] using hx
  subst hx'
  obtain ⟨_, b, o, e1, e2, _⟩ := hZ i hi 0 hm
  refine ⟨b, o, e1, e2, fun j v hv => ?_⟩
  obtain ⟨hj, rfl⟩ := henc _ _ _ hv
  obtain ⟨_, b', o', f1, _, f3⟩ := hZ i hi j hj
  obtain ⟨rfl, rfl⟩ : b = b' ∧ o = o' := by rw [e1] at f1; simpa using f1
  exact f3

/-- a slice of ints as rows of one -/
theorem open_int_list {H : Type} {enc : TypeId × Value → H} {P : Program} {w : World} {base : Nat} {spare : Nat → Bool} {held : Bool} {t e : TypeId} {fuel : Nat} {cs : List Value} {x : DataW H × List MemPlace}
    (ht : P.underlying t = some (.slice e)) (he : P.underlying e = some (.int .i64)) (hc : P.cellsOf e = 1)
    (h : DataW.trod enc P w base spare held fuel t cs = some x) :
    ∃ (A : Option Addr) (len cap : Nat) (Z : Nat → Nat → Int), cs = [.slice A len cap] ∧ len ≤ maxLen ∧ len ≤ cap ∧
      ∀ i, i < len → ∀ j, j < 1 → (Lit.int .i64 (Z i j)).wf = true ∧ ∃ b o, A = some ⟨b, o, none⟩ ∧ b < w.heap.size ∧ w.cell? ⟨b, o + i * 1 + j, none⟩ = some (.int .i64 (Z i j)) := by
  rcases open_ints ht he hc h with ⟨rfl, rfl⟩ | ⟨a, len, cap, zs, rfl, hb, hl, hm, hzl, hx, hat, hwf⟩
  · exact ⟨none, 0, 0, fun _ _ => 0, rfl, by omega, by omega, fun i hi => by omega⟩
  have hlz : len ≤ zs.length := by rw [hzl]; split <;> omega
  refine ⟨some a, len, cap, fun i _ => zs.getD i 0, rfl, by omega, hl, fun i hi j hj => ⟨hwf _ (by show zs.getD i 0 ∈ zs; rw [List.getD_eq_getElem?_getD, List.getElem?_eq_getElem (by omega)]; exact List.getElem_mem _), a.block, a.off, ?_, ?_, ?_⟩⟩
  · have h0 := hat 0 (by omega)
    obtain ⟨ab, ao, spo⟩ := a
    cases spo with
    | none => rfl
    | some s => simp [Addr.add, World.cell?] at h0; split at h0 <;> simp_all
  · have := block_lt_of_cell (hat i (by omega))
    unfold Addr.add at this
    split at this <;> exact this
  · have h0 := hat 0 (by omega)
    rw [← hat i (by omega)]
    congr 1
    obtain ⟨ab, ao, spo⟩ := a
    cases spo with
    | none =>
      obtain rfl : j = 0 := by omega
      simp [Addr.add]
    | some s => simp [Addr.add, World.cell?] at h0; split at h0 <;> simp_all
/-- and read as the list -/
theorem rdE_of_list {w : World} {A : Option Addr} {n : Nat} {Z : Nat → Nat → Int}
    (hZ : ∀ i, i < n → ∀ j, j < 1 → (Lit.int .i64 (Z i j)).wf = true ∧ ∃ b o, A = some ⟨b, o, none⟩ ∧ b < w.heap.size ∧ w.cell? ⟨b, o + i * 1 + j, none⟩ = some (.int .i64 (Z i j))) :
    RdE (fun z : Int => [.int .i64 z]) 1 w A ((List.range n).map fun i => Z i 0) :=
  rdE_of_rows (fun z => z 0) _ (by decide) (fun z j v hv => by
    match j, hv with
    | 0, hv => exact ⟨by decide, by simpa using hv.symm⟩
    | j + 1, hv => simp at hv) hZ

theorem own : ownKnob Try.prog.godebug = none := by kernel_rfl
theorem laidOut : laidOutB Try.prog = true := by kernel_rfl
end Go.Proofs.Ytnflkmjfhbfekaa
