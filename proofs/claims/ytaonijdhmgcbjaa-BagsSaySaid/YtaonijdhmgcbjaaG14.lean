/- Lemmas for the walks (Obj9, ObjA). No condition. -/
import Derived.Test.YtaonijdhmgcbjaaG13
import Derived.Test.YtaonijdhmgcbjaaG10
set_option linter.unusedSimpArgs false
set_option linter.unusedVariables false
set_option linter.unusedSectionVars false
set_option linter.unnecessarySimpa false
namespace Go.Proofs.Ytaonijdhmgcbjaa
open Go.RowKit

/-- what comes of a step: made anew, or a part of what was handed in -/
def StepdPost (w : World) (A : Option Addr) (s : List Int) (R : Res) (e : Ending) (w' : World) : Prop :=
  ∃ x : Option Addr × Nat, e = .returned (stepV R x) ∧ (Own intEnc 1 3 w' w.heap.size (.slice x.1 R.1.length x.2) R.1 ∨ ((∀ w2, RdInt w2 A s → RdInt w2 x.1 R.1) ∧ x.1.map (·.block) = A.map (·.block) ∧ R.1.length ≤ x.2 ∧ (x.1 = none → x.2 = 0))) ∧ Below w.heap.size w w'
theorem stepd_own {w w' : World} {A A' : Option Addr} {s : List Int} {c' : Nat} {R : Res} (ho : Own intEnc 1 3 w' w.heap.size (.slice A' R.1.length c') R.1) (hb : Below w.heap.size w w') : StepdPost w A s R (.returned (stepV R (A', c'))) w' :=
  ⟨(A', c'), rfl, .inl ho, hb⟩
section
variable (A : Option Addr) (c : Nat) (s : List Int) (a : Int) (w : World) (hA : RdInt w A s) (hAn : A = none → c = 0) (hc : s.length ≤ c) (hl : s.length ≤ 50)
include hA hAn hc hl
omit hA hAn hc hl in
set_option maxRecDepth 100000 in
theorem stepd_1 : Calls Try.prog 53 #[.slice A s.length c, .int .i64 1, .int .i64 a] w (StepdPost w A s ([a], 0, 0)) := by
  refine calls_T (S := []) [] Try.func53 rfl Try.ntmps53 (by simp) (Mem.nil _) ?_
  repeat' (first | ((first | with_reducible (first | apply TL_q | apply TD_q0 | apply TD_q1 | apply TD_q2 | apply TD_q3) | ((with_reducible (first | apply TD_q0y | apply TD_q1y)); exact rfl; exact rfl; (with_reducible exact rfl))); (first | exact QS.auto | ((with_reducible apply QS_sliceHighZ (j := s.length - 1)); exact rfl; exact rfl; omega; omega)); exact rfl) | (refine GO ?_) | (refine GOE ?_; (first | (rintro _ _ ⟨rfl, rfl⟩) | (rintro _ _ ⟨g, rfl, rfl⟩) | (rintro _ _ ⟨A', c', rfl, rfl⟩))) | ((refine GO2 ?_ ?_) <;> intro h <;> (try (repeat (first | with_reducible (replace h := of_decide_eq_true h) | with_reducible (replace h := of_decide_eq_false h) | with_reducible (replace h := bnt h) | with_reducible (replace h := bnf h) | with_reducible (replace h := Int.not_lt.mp h) | with_reducible (replace h := Int.not_le.mp h) | with_reducible (replace h := band_dec h) | with_reducible (replace h := band_decF h) | with_reducible (replace h := bor_dec h) | with_reducible (replace h := bor_decF h)))) <;> (try (exfalso; first | contradiction | omega))) | fail)
  (refine At_ret Try.results53 rfl (fun w' hw => ?_))
  exact stepd_own (hw.blkOut (enc := intEnc) [a] rfl (by first | ((repeat (first | with_reducible exact List.mem_cons_self | with_reducible apply List.mem_cons_of_mem)); done) | (repeat (first | exact List.Mem.head _ | apply List.Mem.tail))) rfl (fun _ => rfl) (by show 1 ≤ maxLen; decide)) (hw.below0 rfl)
set_option maxRecDepth 100000 in
omit hl in
theorem stepd_2 (h0 : 0 < s.length) : Calls Try.prog 53 #[.slice A s.length c, .int .i64 2, .int .i64 a] w (StepdPost w A s (s, s.getD 0 0, 0)) := by
  have e : s.getD 0 0 = s[0] := by simp [List.getD_eq_getElem?_getD, h0]
  rw [e]
  obtain ⟨b, o, rfl, _⟩ := RdE.open hA (by omega)
  refine calls_T (S := []) [] Try.func53 rfl Try.ntmps53 (by simp) (Mem.nil _) ?_
  repeat' (first | ((first | with_reducible (first | apply TL_q | apply TD_q0 | apply TD_q1 | apply TD_q2 | apply TD_q3) | ((with_reducible (first | apply TD_q0y | apply TD_q1y)); exact rfl; exact rfl; (with_reducible exact rfl))); (first | exact QS.auto | ((with_reducible apply QS_sliceHighZ (j := s.length - 1)); exact rfl; exact rfl; omega; omega)); exact rfl) | (refine GG ?_) | (refine GE ?_; (first | (rintro _ _ ⟨rfl, rfl⟩) | (rintro _ _ ⟨g, rfl, rfl⟩) | (rintro _ _ ⟨A', c', rfl, rfl⟩)); (try refine ⟨SUB, ?_⟩)) | ((refine GO2 ?_ ?_) <;> intro h <;> (try (repeat (first | with_reducible (replace h := of_decide_eq_true h) | with_reducible (replace h := of_decide_eq_false h) | with_reducible (replace h := bnt h) | with_reducible (replace h := bnf h) | with_reducible (replace h := Int.not_lt.mp h) | with_reducible (replace h := Int.not_le.mp h) | with_reducible (replace h := band_dec h) | with_reducible (replace h := band_decF h) | with_reducible (replace h := bor_dec h) | with_reducible (replace h := bor_decF h)))) <;> (try (exfalso; first | contradiction | omega))) | (refine GOF ?_ ?_) | ((with_reducible apply T_draw (id := 9) 1000 (OT.seq [(0, 0), (0, 1), (0, 2), (0, 4), (1, 3), (0, 5), (0, 6)] .nil)); kernel_rfl; exact rfl; kernel_rfl; (repeat (first | with_reducible exact Blind.body | with_reducible apply Blind.seq | with_reducible apply Blind.block))) | ((with_reducible apply T_draw (id := 18) 1000 (OT.seq [(0, 0), (0, 1), (0, 2), (0, 3), (0, 5), (1, 4), (0, 6), (0, 7)] .nil)); kernel_rfl; exact rfl; kernel_rfl; (repeat (first | with_reducible exact Blind.body | with_reducible apply Blind.seq | with_reducible apply Blind.block))) | ((with_reducible apply T_draw (id := 19) 1000 (OT.seq [(0, 0), (0, 1), (0, 2), (0, 3), (0, 4), (0, 5), (0, 6), (0, 7), (0, 9), (1, 8), (0, 10), (0, 11)] .nil)); kernel_rfl; exact rfl; kernel_rfl; (repeat (first | with_reducible exact Blind.body | with_reducible apply Blind.seq | with_reducible apply Blind.block))) | ((with_reducible apply T_draw (id := 21) 1000 (OT.seq [(0, 0), (0, 1), (0, 5), (0, 6), (1, 2), (0, 3), (1, 7), (2, 4), (0, 8), (0, 9), (0, 10)] .nil)); kernel_rfl; exact rfl; kernel_rfl; (repeat (first | with_reducible exact Blind.body | with_reducible apply Blind.seq | with_reducible apply Blind.block))) | fail)
  (refine At_ret Try.results53 rfl (fun w' hw => ?_))
  exact ⟨(_, c), rfl, .inr ⟨fun _ h => h, rfl, hc, hAn⟩, hw.below0 rfl⟩
set_option maxRecDepth 100000 in
theorem stepd_4 : Calls Try.prog 53 #[.slice A s.length c, .int .i64 4, .int .i64 a] w (StepdPost w A s (if s.length = 0 then (s, -1, 0) else (s.drop 1, s.getD 0 0, 0))) := by
  by_cases h0 : s.length = 0
  · rw [if_pos h0]
    refine calls_T (S := []) [] Try.func53 rfl Try.ntmps53 (by simp) (Mem.nil _) ?_
    repeat' (first | ((first | with_reducible (first | apply TL_q | apply TD_q0 | apply TD_q1 | apply TD_q2 | apply TD_q3) | ((with_reducible (first | apply TD_q0y | apply TD_q1y)); exact rfl; exact rfl; (with_reducible exact rfl))); (first | exact QS.auto | ((with_reducible apply QS_sliceHighZ (j := s.length - 1)); exact rfl; exact rfl; omega; omega)); exact rfl) | (refine GO ?_) | (refine GOE ?_; (first | (rintro _ _ ⟨rfl, rfl⟩) | (rintro _ _ ⟨g, rfl, rfl⟩) | (rintro _ _ ⟨A', c', rfl, rfl⟩))) | ((refine GO2 ?_ ?_) <;> intro h <;> (try (repeat (first | with_reducible (replace h := of_decide_eq_true h) | with_reducible (replace h := of_decide_eq_false h) | with_reducible (replace h := bnt h) | with_reducible (replace h := bnf h) | with_reducible (replace h := Int.not_lt.mp h) | with_reducible (replace h := Int.not_le.mp h) | with_reducible (replace h := band_dec h) | with_reducible (replace h := band_decF h) | with_reducible (replace h := bor_dec h) | with_reducible (replace h := bor_decF h)))) <;> (try (exfalso; first | contradiction | omega))) | fail)
    (refine At_ret Try.results53 rfl (fun w' hw => ?_))
    exact ⟨(A, c), rfl, .inr ⟨fun _ h => h, rfl, hc, hAn⟩, hw.below0 rfl⟩
  · have h01 : 1 ≤ s.length := by omega
    rw [if_neg h0]
    have e : s.getD 0 0 = s[0] := by simp [List.getD_eq_getElem?_getD, show 0 < s.length by omega]
    rw [e]
    obtain ⟨b, o, rfl, _⟩ := RdE.open hA (by omega)
    refine calls_T (S := []) [] Try.func53 rfl Try.ntmps53 (by simp) (Mem.nil _) ?_
    repeat' (first | ((first | with_reducible (first | apply TL_q | apply TD_q0 | apply TD_q1 | apply TD_q2 | apply TD_q3) | ((with_reducible (first | apply TD_q0y | apply TD_q1y)); exact rfl; exact rfl; (with_reducible exact rfl))); (first | exact QS.auto | ((with_reducible apply QS_sliceHighZ (j := s.length - 1)); exact rfl; exact rfl; omega; omega)); exact rfl) | (refine GG ?_) | (refine GE ?_; (first | (rintro _ _ ⟨rfl, rfl⟩) | (rintro _ _ ⟨g, rfl, rfl⟩) | (rintro _ _ ⟨A', c', rfl, rfl⟩)); (try refine ⟨SUB, ?_⟩)) | ((refine GO2 ?_ ?_) <;> intro h <;> (try (repeat (first | with_reducible (replace h := of_decide_eq_true h) | with_reducible (replace h := of_decide_eq_false h) | with_reducible (replace h := bnt h) | with_reducible (replace h := bnf h) | with_reducible (replace h := Int.not_lt.mp h) | with_reducible (replace h := Int.not_le.mp h) | with_reducible (replace h := band_dec h) | with_reducible (replace h := band_decF h) | with_reducible (replace h := bor_dec h) | with_reducible (replace h := bor_decF h)))) <;> (try (exfalso; first | contradiction | omega))) | (refine GOF ?_ ?_) | ((with_reducible apply T_draw (id := 9) 1000 (OT.seq [(0, 0), (0, 1), (0, 2), (0, 4), (1, 3), (0, 5), (0, 6)] .nil)); kernel_rfl; exact rfl; kernel_rfl; (repeat (first | with_reducible exact Blind.body | with_reducible apply Blind.seq | with_reducible apply Blind.block))) | ((with_reducible apply T_draw (id := 18) 1000 (OT.seq [(0, 0), (0, 1), (0, 2), (0, 3), (0, 5), (1, 4), (0, 6), (0, 7)] .nil)); kernel_rfl; exact rfl; kernel_rfl; (repeat (first | with_reducible exact Blind.body | with_reducible apply Blind.seq | with_reducible apply Blind.block))) | ((with_reducible apply T_draw (id := 19) 1000 (OT.seq [(0, 0), (0, 1), (0, 2), (0, 3), (0, 4), (0, 5), (0, 6), (0, 7), (0, 9), (1, 8), (0, 10), (0, 11)] .nil)); kernel_rfl; exact rfl; kernel_rfl; (repeat (first | with_reducible exact Blind.body | with_reducible apply Blind.seq | with_reducible apply Blind.block))) | ((with_reducible apply T_draw (id := 21) 1000 (OT.seq [(0, 0), (0, 1), (0, 5), (0, 6), (1, 2), (0, 3), (1, 7), (2, 4), (0, 8), (0, 9), (0, 10)] .nil)); kernel_rfl; exact rfl; kernel_rfl; (repeat (first | with_reducible exact Blind.body | with_reducible apply Blind.seq | with_reducible apply Blind.block))) | fail)
    (refine At_ret Try.results53 rfl (fun w' hw => ?_))
    have e1 : (s.drop 1).length = s.length - 1 := by simp
    refine ⟨(some ⟨b, if c = 1 then o else o + 1 * 1, none⟩, c - 1), by rw [stepV, e1]; rfl, .inr ⟨?_, rfl, by rw [e1]; show s.length - 1 ≤ c - 1; omega, fun h => by cases h⟩, hw.below0 rfl⟩
    intro w2 h2
    by_cases hc1 : c = 1
    · have hn : s.drop 1 = [] := List.drop_eq_nil_of_le (by omega)
      show RdE intEnc 1 w2 _ (s.drop 1)
      rw [hn]; exact RdE.nil _
    · show RdE intEnc 1 w2 (some ⟨b, if c = 1 then o else o + 1 * 1, none⟩) (s.drop 1)
      rw [if_neg hc1]
      exact h2.drop 1
set_option maxRecDepth 100000 in
theorem stepd_6 : Calls Try.prog 53 #[.slice A s.length c, .int .i64 6, .int .i64 a] w (StepdPost w A s (if s.length = 0 then (s, -1, 0) else (s.take (s.length - 1), s.getD (s.length - 1) 0, 0))) := by
  by_cases h0 : s.length = 0
  · rw [if_pos h0]
    refine calls_T (S := []) [] Try.func53 rfl Try.ntmps53 (by simp) (Mem.nil _) ?_
    repeat' (first | ((first | with_reducible (first | apply TL_q | apply TD_q0 | apply TD_q1 | apply TD_q2 | apply TD_q3) | ((with_reducible (first | apply TD_q0y | apply TD_q1y)); exact rfl; exact rfl; (with_reducible exact rfl))); (first | exact QS.auto | ((with_reducible apply QS_sliceHighZ (j := s.length - 1)); exact rfl; exact rfl; omega; omega)); exact rfl) | (refine GO ?_) | (refine GOE ?_; (first | (rintro _ _ ⟨rfl, rfl⟩) | (rintro _ _ ⟨g, rfl, rfl⟩) | (rintro _ _ ⟨A', c', rfl, rfl⟩))) | ((refine GO2 ?_ ?_) <;> intro h <;> (try (repeat (first | with_reducible (replace h := of_decide_eq_true h) | with_reducible (replace h := of_decide_eq_false h) | with_reducible (replace h := bnt h) | with_reducible (replace h := bnf h) | with_reducible (replace h := Int.not_lt.mp h) | with_reducible (replace h := Int.not_le.mp h) | with_reducible (replace h := band_dec h) | with_reducible (replace h := band_decF h) | with_reducible (replace h := bor_dec h) | with_reducible (replace h := bor_decF h)))) <;> (try (exfalso; first | contradiction | omega))) | fail)
    (refine At_ret Try.results53 rfl (fun w' hw => ?_))
    exact ⟨(A, c), rfl, .inr ⟨fun _ h => h, rfl, hc, hAn⟩, hw.below0 rfl⟩
  · rw [if_neg h0]
    have e : s.getD (s.length - 1) 0 = s[s.length - 1] := by simp [List.getD_eq_getElem?_getD, show s.length - 1 < s.length by omega]
    rw [e]
    have e3 : ((s.length : Int) - 1).toNat = s.length - 1 := by omega
    obtain ⟨b, o, rfl, _⟩ := RdE.open hA (by omega)
    refine calls_T (S := []) [] Try.func53 rfl Try.ntmps53 (by simp) (Mem.nil _) ?_
    repeat' (first | ((first | with_reducible (first | apply TL_q | apply TD_q0 | apply TD_q1 | apply TD_q2 | apply TD_q3) | ((with_reducible (first | apply TD_q0y | apply TD_q1y)); exact rfl; exact rfl; (with_reducible exact rfl))); (first | exact QS.auto | ((with_reducible apply QS_sliceHighZ (j := s.length - 1)); exact rfl; exact rfl; omega; omega)); exact rfl) | (refine GG ?_) | (refine GE ?_; (first | (rintro _ _ ⟨rfl, rfl⟩) | (rintro _ _ ⟨g, rfl, rfl⟩) | (rintro _ _ ⟨A', c', rfl, rfl⟩)); (try refine ⟨SUB, ?_⟩)) | ((refine GO2 ?_ ?_) <;> intro h <;> (try (repeat (first | with_reducible (replace h := of_decide_eq_true h) | with_reducible (replace h := of_decide_eq_false h) | with_reducible (replace h := bnt h) | with_reducible (replace h := bnf h) | with_reducible (replace h := Int.not_lt.mp h) | with_reducible (replace h := Int.not_le.mp h) | with_reducible (replace h := band_dec h) | with_reducible (replace h := band_decF h) | with_reducible (replace h := bor_dec h) | with_reducible (replace h := bor_decF h)))) <;> (try (exfalso; first | contradiction | omega))) | (refine GOF ?_ ?_) | ((with_reducible apply T_draw (id := 9) 1000 (OT.seq [(0, 0), (0, 1), (0, 2), (0, 4), (1, 3), (0, 5), (0, 6)] .nil)); kernel_rfl; exact rfl; kernel_rfl; (repeat (first | with_reducible exact Blind.body | with_reducible apply Blind.seq | with_reducible apply Blind.block))) | ((with_reducible apply T_draw (id := 18) 1000 (OT.seq [(0, 0), (0, 1), (0, 2), (0, 3), (0, 5), (1, 4), (0, 6), (0, 7)] .nil)); kernel_rfl; exact rfl; kernel_rfl; (repeat (first | with_reducible exact Blind.body | with_reducible apply Blind.seq | with_reducible apply Blind.block))) | ((with_reducible apply T_draw (id := 19) 1000 (OT.seq [(0, 0), (0, 1), (0, 2), (0, 3), (0, 4), (0, 5), (0, 6), (0, 7), (0, 9), (1, 8), (0, 10), (0, 11)] .nil)); kernel_rfl; exact rfl; kernel_rfl; (repeat (first | with_reducible exact Blind.body | with_reducible apply Blind.seq | with_reducible apply Blind.block))) | ((with_reducible apply T_draw (id := 21) 1000 (OT.seq [(0, 0), (0, 1), (0, 5), (0, 6), (1, 2), (0, 3), (1, 7), (2, 4), (0, 8), (0, 9), (0, 10)] .nil)); kernel_rfl; exact rfl; kernel_rfl; (repeat (first | with_reducible exact Blind.body | with_reducible apply Blind.seq | with_reducible apply Blind.block))) | fail)
    (refine At_ret Try.results53 rfl (fun w' hw => ?_))
    have e1 : (s.take (s.length - 1)).length = s.length - 1 := by simp
    exact ⟨(some ⟨b, o, none⟩, c), by rw [stepV, e1]; simp only [e3, resVal], .inr ⟨fun _ h => h.take _, rfl, by rw [e1]; show s.length - 1 ≤ c; omega, hAn⟩, hw.below0 rfl⟩
omit hc in
set_option maxRecDepth 100000 in
theorem stepd_put (kind : Int) (hk : kind = 3 ∨ kind = 5) : Calls Try.prog 53 #[.slice A s.length c, .int .i64 kind, .int .i64 a] w (StepdPost w A s (putR s a)) := by
  by_cases h0 : s.length = 50
  · have e : putR s a = ([], 0, 2) := by rw [putR, if_pos h0]
    rw [e]
    refine calls_T (S := []) [] Try.func53 rfl Try.ntmps53 (by simp) (Mem.nil _) ?_
    rcases hk with rfl | rfl
    all_goals
      repeat' (first | ((first | with_reducible (first | apply TL_q | apply TD_q0 | apply TD_q1 | apply TD_q2 | apply TD_q3) | ((with_reducible (first | apply TD_q0y | apply TD_q1y)); exact rfl; exact rfl; (with_reducible exact rfl))); (first | exact QS.auto | ((with_reducible apply QS_sliceHighZ (j := s.length - 1)); exact rfl; exact rfl; omega; omega)); exact rfl) | (refine GO ?_) | (refine GOE ?_; (first | (rintro _ _ ⟨rfl, rfl⟩) | (rintro _ _ ⟨g, rfl, rfl⟩) | (rintro _ _ ⟨A', c', rfl, rfl⟩))) | ((refine GO2 ?_ ?_) <;> intro h <;> (try (repeat (first | with_reducible (replace h := of_decide_eq_true h) | with_reducible (replace h := of_decide_eq_false h) | with_reducible (replace h := bnt h) | with_reducible (replace h := bnf h) | with_reducible (replace h := Int.not_lt.mp h) | with_reducible (replace h := Int.not_le.mp h) | with_reducible (replace h := band_dec h) | with_reducible (replace h := band_decF h) | with_reducible (replace h := bor_dec h) | with_reducible (replace h := bor_decF h)))) <;> (try (exfalso; first | contradiction | omega))) | fail)
      (refine At_ret Try.results53 rfl (fun w' hw => ?_))
      exact stepd_own (R := ([], 0, 2)) (A' := none) (c' := 0) (Own.nil _ _) (hw.below0 rfl)
  · have e : putR s a = (s ++ [a], 0, 0) := by rw [putR, if_neg h0]
    rw [e]
    refine calls_T (S := []) [] Try.func53 rfl Try.ntmps53 (by simp) (Mem.nil _) ?_
    rcases hk with rfl | rfl
    all_goals
      repeat' (first | ((first | with_reducible (first | apply TL_q | apply TD_q0 | apply TD_q1 | apply TD_q2 | apply TD_q3) | ((with_reducible (first | apply TD_q0y | apply TD_q1y)); exact rfl; exact rfl; (with_reducible exact rfl))); (first | exact QS.auto | ((with_reducible apply QS_sliceHighZ (j := s.length - 1)); exact rfl; exact rfl; omega; omega)); exact rfl) | (refine GO ?_) | (refine GOE ?_; (first | (rintro _ _ ⟨rfl, rfl⟩) | (rintro _ _ ⟨g, rfl, rfl⟩) | (rintro _ _ ⟨A', c', rfl, rfl⟩))) | ((refine GO2 ?_ ?_) <;> intro h <;> (try (repeat (first | with_reducible (replace h := of_decide_eq_true h) | with_reducible (replace h := of_decide_eq_false h) | with_reducible (replace h := bnt h) | with_reducible (replace h := bnf h) | with_reducible (replace h := Int.not_lt.mp h) | with_reducible (replace h := Int.not_le.mp h) | with_reducible (replace h := band_dec h) | with_reducible (replace h := band_decF h) | with_reducible (replace h := bor_dec h) | with_reducible (replace h := bor_decF h)))) <;> (try (exfalso; first | contradiction | omega))) | ((with_reducible (first | apply TD_e2z | apply TD_e3z | apply TL_e | apply TD_e2 | apply TD_e3)); ((with_reducible apply ES_buildSlice0 intEnc); exact rfl); (first | exact rfl | exact ⟨rfl, rfl, rfl⟩); (rintro _ _ ⟨g, rfl, rfl⟩); (try refine ⟨SUB, ?_⟩)) | ((with_reducible (first | apply TD_e2z | apply TD_e3z | apply TL_e | apply TD_e2 | apply TD_e3)); ((with_reducible apply ES_append (enc := intEnc) (xs := s) (ls := [])); exact rfl; exact rfl; exact Lies.rd hA rfl (fun _ => rfl) (by omega) hAn; exact fun _ => rfl; exact fun _ => rfl; (intro A' c'; first | ((repeat (first | with_reducible exact Upd.here _ _ _ | with_reducible apply Upd.there)); done) | (repeat (first | exact Upd.here _ _ _ | apply Upd.there))); (simp; omega); decide; exact rfl); (first | exact rfl | exact ⟨rfl, rfl, rfl⟩); (rintro _ _ ⟨A', c', rfl, rfl⟩); (try refine ⟨SUB, ?_⟩)) | ((with_reducible (first | apply TD_e2z | apply TD_e3z | apply TL_e | apply TD_e2 | apply TD_e3)); ((with_reducible apply ES_append1 (enc := intEnc)); exact rfl; exact rfl; (repeat (first | with_reducible exact List.mem_cons_self | with_reducible apply List.mem_cons_of_mem)); exact rfl; exact fun _ => rfl; exact fun _ => rfl; (intro A' c'; first | ((repeat (first | with_reducible exact Upd.here _ _ _ | with_reducible apply Upd.there)); done) | (repeat (first | exact Upd.here _ _ _ | apply Upd.there))); (simp; omega); decide; exact rfl); (first | exact rfl | exact ⟨rfl, rfl, rfl⟩); (rintro _ _ ⟨A', c', rfl, rfl⟩); (try refine ⟨SUB, ?_⟩)) | fail)
      (refine At_ret Try.results53 rfl (fun w' hw => ?_))
      have ho := hw.ownOut (enc := intEnc) (M := 1) (ls := [] ++ s ++ [a]) (A := A') (c := c') rfl (by first | ((repeat (first | with_reducible exact List.mem_cons_self | with_reducible apply List.mem_cons_of_mem)); done) | (repeat (first | exact List.Mem.head _ | apply List.Mem.tail)))
      rw [List.nil_append] at ho
      exact stepd_own (R := (s ++ [a], 0, 0)) ho (hw.below0 rfl)
end
end Go.Proofs.Ytaonijdhmgcbjaa

namespace Go.Proofs.Ytaonijdhmgcbjaa
open Go.RowKit
theorem setSt_len {kind a : Int} {st : Int × List Int × Bool} {x : Int} : (setStep kind a st x).2.1.length ≤ st.2.1.length + 2 := by
  unfold setStep
  dsimp only
  repeat' split
  all_goals simp
set_option maxRecDepth 100000 in
theorem stepd_10 (A : Option Addr) (c : Nat) (s : List Int) (a : Int) (w : World) (hA : RdInt w A s) (x : Int) (hs : s = [x]) (hx : 0 ≤ x ∧ x ≤ 1000) : Calls Try.prog 53 #[.slice A s.length c, .int .i64 10, .int .i64 a] w (StepdPost w A s (if x = 1000 then ([], 0, 2) else ([x + 1], x, 0))) := by
  subst hs
  obtain ⟨b, o, rfl, _⟩ := RdE.open hA (by simp)
  have hx0 : [x][0] = x := rfl
  have hx1 : 0 < [x].length := by simp
  have hx3 : -9223372036854775808 ≤ [x][0] + 1 := by omega
  have hx2 : [x][0] + 1 ≤ 9223372036854775807 := by omega
  refine calls_T (S := []) [] Try.func53 rfl Try.ntmps53 (by simp) (Mem.nil _) ?_
  repeat' (first | (refine GG ?_) | (refine GE ?_; (first | (rintro _ _ ⟨rfl, rfl⟩) | (rintro _ _ ⟨g, rfl, rfl⟩) | (rintro _ _ ⟨A', c', rfl, rfl⟩)); (try refine ⟨SUB, ?_⟩)) | ((refine GO2 ?_ ?_) <;> intro h <;> (try (repeat (first | with_reducible (replace h := of_decide_eq_true h) | with_reducible (replace h := of_decide_eq_false h) | with_reducible (replace h := bnt h) | with_reducible (replace h := bnf h) | with_reducible (replace h := Int.not_lt.mp h) | with_reducible (replace h := Int.not_le.mp h) | with_reducible (replace h := band_dec h) | with_reducible (replace h := band_decF h) | with_reducible (replace h := bor_dec h) | with_reducible (replace h := bor_decF h)))) <;> (try (exfalso; first | contradiction | omega))) | (refine GOF ?_ ?_) | ((with_reducible apply T_draw (id := 9) 1000 (OT.seq [(0, 0), (0, 1), (0, 2), (0, 4), (1, 3), (0, 5), (0, 6)] .nil)); kernel_rfl; exact rfl; kernel_rfl; (repeat (first | with_reducible exact Blind.body | with_reducible apply Blind.seq | with_reducible apply Blind.block))) | ((with_reducible apply T_draw (id := 18) 1000 (OT.seq [(0, 0), (0, 1), (0, 2), (0, 3), (0, 5), (1, 4), (0, 6), (0, 7)] .nil)); kernel_rfl; exact rfl; kernel_rfl; (repeat (first | with_reducible exact Blind.body | with_reducible apply Blind.seq | with_reducible apply Blind.block))) | ((with_reducible apply T_draw (id := 19) 1000 (OT.seq [(0, 0), (0, 1), (0, 2), (0, 3), (0, 4), (0, 5), (0, 6), (0, 7), (0, 9), (1, 8), (0, 10), (0, 11)] .nil)); kernel_rfl; exact rfl; kernel_rfl; (repeat (first | with_reducible exact Blind.body | with_reducible apply Blind.seq | with_reducible apply Blind.block))) | ((with_reducible apply T_draw (id := 21) 1000 (OT.seq [(0, 0), (0, 1), (0, 5), (0, 6), (1, 2), (0, 3), (1, 7), (2, 4), (0, 8), (0, 9), (0, 10)] .nil)); kernel_rfl; exact rfl; kernel_rfl; (repeat (first | with_reducible exact Blind.body | with_reducible apply Blind.seq | with_reducible apply Blind.block))) | fail)
  · (refine At_ret Try.results53 rfl (fun w' hw => ?_))
    rw [if_pos (show x = 1000 from ‹[x][0] = 1000›)]
    exact stepd_own (R := ([], 0, 2)) (A' := none) (c' := 0) (Own.nil _ _) (hw.below0 rfl)
  · (refine At_ret Try.results53 rfl (fun w' hw => ?_))
    rw [if_neg (show ¬ x = 1000 from ‹¬ [x][0] = 1000›)]
    exact stepd_own (R := ([x + 1], x, 0)) (hw.blkOut (enc := intEnc) [x + 1] rfl (by first | ((repeat (first | with_reducible exact List.mem_cons_self | with_reducible apply List.mem_cons_of_mem)); done) | (repeat (first | exact List.Mem.head _ | apply List.Mem.tail))) rfl (fun _ => rfl) (by show 1 ≤ maxLen; decide)) (hw.below0 rfl)
section
variable (A : Option Addr) (c : Nat) (s : List Int) (a kind : Int) (w : World) (hA : RdInt w A s) (hl : s.length ≤ 50) (hk : kind = 7 ∨ kind = 8 ∨ kind = 9)
include hA hl hk
set_option maxRecDepth 100000 in
set_option maxHeartbeats 4000000 in
theorem stepd_set : Calls Try.prog 53 #[.slice A s.length c, .int .i64 kind, .int .i64 a] w (StepdPost w A s (if kind = 7 ∧ s.contains a = false ∧ s.length = 50 then ([], 0, 2) else ((setR s kind a).1, (setR s kind a).2, 0))) := by
  have hcon := fun w h => contains_any A c s a w (by omega) h
  have hz : setR s kind a = setFin kind a (s.foldl (setStep kind a) (0, [], !decide (kind = 7))) := rfl
  rw [hz]
  clear hz
  obtain ⟨F, hF⟩ : ∃ F, s.foldl (setStep kind a) (0, [], !decide (kind = 7)) = F := ⟨_, rfl⟩
  rw [hF]
  generalize hzc : s.contains a = z at *
  refine calls_T (S := []) [] Try.func53 rfl Try.ntmps53 (by simp) (Mem.nil _) ?_
  have h3 : ¬ kind = 3 := by omega
  have h5 : ¬ kind = 5 := by omega
  have h10 : ¬ kind = 10 := by omega
  have h1 : ¬ kind = 1 := by omega
  have h2 : ¬ kind = 2 := by omega
  have h4 : ¬ kind = 4 := by omega
  have h6 : ¬ kind = 6 := by omega
  by_cases hfull : kind = 7 ∧ z = false ∧ s.length = 50
  · rw [if_pos hfull]
    obtain ⟨rfl, rfl, h50⟩ := hfull
    repeat' (first | (refine GO ?_) | (refine GOE ?_; (first | (rintro _ _ ⟨rfl, rfl⟩) | (rintro _ _ ⟨g, rfl, rfl⟩) | (rintro _ _ ⟨A', c', rfl, rfl⟩))) | ((refine GO2 ?_ ?_) <;> intro h <;> (try (repeat (first | with_reducible (replace h := of_decide_eq_true h) | with_reducible (replace h := of_decide_eq_false h) | with_reducible (replace h := bnt h) | with_reducible (replace h := bnf h) | with_reducible (replace h := Int.not_lt.mp h) | with_reducible (replace h := Int.not_le.mp h) | with_reducible (replace h := band_dec h) | with_reducible (replace h := band_decF h) | with_reducible (replace h := bor_dec h) | with_reducible (replace h := bor_decF h)))) <;> (try (exfalso; first | contradiction | omega))) | ((with_reducible (first | apply TD_e2z | apply TD_e3z | apply TL_e | apply TD_e2 | apply TD_e3)); ((with_reducible apply ES_callV (f := 46)); exact rfl; (intro w hw; exact hcon w (hw.rd rfl hA)); exact rfl); (first | exact rfl | exact ⟨rfl, rfl, rfl⟩); (rintro _ _ ⟨rfl, rfl⟩); (try refine ⟨SUB, ?_⟩)) | fail)
    (refine At_ret Try.results53 rfl (fun w' hw => ?_))
    exact stepd_own (R := ([], 0, 2)) (A' := none) (c' := 0) (Own.nil _ _) (hw.below0 rfl)
  · rw [if_neg hfull]
    repeat' (first | (refine GO ?_) | (refine GOE ?_; (first | (rintro _ _ ⟨rfl, rfl⟩) | (rintro _ _ ⟨g, rfl, rfl⟩) | (rintro _ _ ⟨A', c', rfl, rfl⟩))) | ((refine GO2 ?_ ?_) <;> intro h <;> (try (repeat (first | with_reducible (replace h := of_decide_eq_true h) | with_reducible (replace h := of_decide_eq_false h) | with_reducible (replace h := bnt h) | with_reducible (replace h := bnf h) | with_reducible (replace h := Int.not_lt.mp h) | with_reducible (replace h := Int.not_le.mp h) | with_reducible (replace h := band_dec h) | with_reducible (replace h := band_decF h) | with_reducible (replace h := bor_dec h) | with_reducible (replace h := bor_decF h)))) <;> (try (exfalso; first | contradiction | omega))) | ((with_reducible (first | apply TD_e2z | apply TD_e3z | apply TL_e | apply TD_e2 | apply TD_e3)); ((with_reducible apply ES_callV (f := 46)); exact rfl; (intro w hw; exact hcon w (hw.rd rfl hA)); exact rfl); (first | exact rfl | exact ⟨rfl, rfl, rfl⟩); (rintro _ _ ⟨rfl, rfl⟩); (try refine ⟨SUB, ?_⟩)) | fail)
    all_goals first
      | (exfalso; exact hfull ⟨by assumption, by assumption, by omega⟩)
      | skip
    all_goals
      refine T_mem (S' := [entOwn intEnc 1 3 none 0 ([] : List Int)]) (fun w hw => hw.nilOwn _ _ _) ?_
      refine T_loop (X := Nat × (Int × List Int × Bool) × Option Addr × Nat) (fun x => [(105, .int .i64 (x.1 : Nat)), (104, .int .i64 s.length), (103, .slice A s.length c), (13, .bool x.2.1.2.2), (12, .slice x.2.2.1 x.2.1.2.1.length x.2.2.2), (11, .int .i64 x.2.1.1), (2, .int .i64 a), (1, .int .i64 kind)])
        (fun x => [entOwn intEnc 1 3 x.2.2.1 x.2.2.2 x.2.1.2.1])
        (fun x => x.1 ≤ s.length ∧ x.2.1.2.1.length ≤ 2 * x.1 ∧ (s.take x.1).foldl (setStep kind a) (0, [], !decide (kind = 7)) = x.2.1 ∧ (x.2.1.1 = 0 ∨ x.2.1.1 = 1)) (fun x => s.length - x.1) (0, (0, [], !decide (kind = 7)), none, 0) ⟨by simp, by simp, by simp, by simp⟩ (by (repeat (first | exact SubE.nil _ | refine SubE.cons rfl ?_))) (by exact SUBS) ?_
      rintro ⟨k, ⟨was, out, put⟩, A1, c1⟩ ⟨hk1, hout, hfold, hwas⟩
      dsimp only at hk1 hout hfold hwas ⊢
      by_cases hlt : k < s.length
      · have hfs := foldl_take_succ (setStep kind a) (0, [], !decide (kind = 7)) s k hlt
        rw [hfold] at hfs
        have hsl := setSt_len (kind := kind) (a := a) (st := (was, out, put)) (x := s[k])
        obtain ⟨b, o, rfl, _⟩ := RdE.open hA (by omega)
        repeat' (first | (refine GO ?_) | (refine GOE ?_; (first | (rintro _ _ ⟨rfl, rfl⟩) | (rintro _ _ ⟨g, rfl, rfl⟩) | (rintro _ _ ⟨A', c', rfl, rfl⟩))) | ((refine GO2 ?_ ?_) <;> intro h <;> (try (repeat (first | with_reducible (replace h := of_decide_eq_true h) | with_reducible (replace h := of_decide_eq_false h) | with_reducible (replace h := bnt h) | with_reducible (replace h := bnf h) | with_reducible (replace h := Int.not_lt.mp h) | with_reducible (replace h := Int.not_le.mp h) | with_reducible (replace h := band_dec h) | with_reducible (replace h := band_decF h) | with_reducible (replace h := bor_dec h) | with_reducible (replace h := bor_decF h)))) <;> (try (exfalso; first | contradiction | omega))) | ((with_reducible (first | apply TD_e2z | apply TD_e3z | apply TL_e | apply TD_e2 | apply TD_e3)); ((with_reducible apply ES_append1 (enc := intEnc)); exact rfl; exact rfl; (repeat (first | with_reducible exact List.mem_cons_self | with_reducible apply List.mem_cons_of_mem)); exact rfl; exact fun _ => rfl; exact fun _ => rfl; (intro A' c'; first | ((repeat (first | with_reducible exact Upd.here _ _ _ | with_reducible apply Upd.there)); done) | (repeat (first | exact Upd.here _ _ _ | apply Upd.there))); (omega); decide; exact rfl); (first | exact rfl | exact ⟨rfl, rfl, rfl⟩); (rintro _ _ ⟨A', c', rfl, rfl⟩); (try refine ⟨SUB, ?_⟩)) | ((with_reducible (first | apply TD_e2z | apply TD_e3z | apply TL_e | apply TD_e2 | apply TD_e3)); ((with_reducible apply ES_append1 (enc := intEnc)); exact rfl; exact rfl; (repeat (first | with_reducible exact List.mem_cons_self | with_reducible apply List.mem_cons_of_mem)); exact rfl; exact fun _ => rfl; exact fun _ => rfl; (intro A' c'; first | ((repeat (first | with_reducible exact Upd.here _ _ _ | with_reducible apply Upd.there)); done) | (repeat (first | exact Upd.here _ _ _ | apply Upd.there))); ((rw [List.length_append]; simp only [List.length_singleton]; omega)); decide; exact rfl); (first | exact rfl | exact ⟨rfl, rfl, rfl⟩); (rintro _ _ ⟨A', c', rfl, rfl⟩); (try refine ⟨SUB, ?_⟩)) | fail)
        all_goals
          apply At_rounds (k + 1, (_, _, _), _, _)
          case hE => (repeat (first | exact SubE.nil _ | refine SubE.cons rfl ?_))
          case hS => exact SUBS
          case hμ => (try dsimp only); omega
          case hp =>
            have hfin : ∀ st', setStep kind a (was, out, put) s[k] = st' → (s.take (k + 1)).foldl (setStep kind a) (0, [], !decide (kind = 7)) = st' := fun st' e => by rw [hfs]; exact e
            refine ⟨hlt, by simp; omega, hfin _ ?_, by first | exact hwas | exact .inr rfl⟩
            first
              | (have hlt' := Int.not_le.2 ‹s[k] < a›
                 simp [setStep, *])
              | simp [setStep, *]
      · obtain rfl : k = s.length := by omega
        rw [List.take_length, hF] at hfold
        subst hfold
        repeat' (first | (refine GO ?_) | (refine GOE ?_; (first | (rintro _ _ ⟨rfl, rfl⟩) | (rintro _ _ ⟨g, rfl, rfl⟩) | (rintro _ _ ⟨A', c', rfl, rfl⟩))) | ((refine GO2 ?_ ?_) <;> intro h <;> (try (repeat (first | with_reducible (replace h := of_decide_eq_true h) | with_reducible (replace h := of_decide_eq_false h) | with_reducible (replace h := bnt h) | with_reducible (replace h := bnf h) | with_reducible (replace h := Int.not_lt.mp h) | with_reducible (replace h := Int.not_le.mp h) | with_reducible (replace h := band_dec h) | with_reducible (replace h := band_decF h) | with_reducible (replace h := bor_dec h) | with_reducible (replace h := bor_decF h)))) <;> (try (exfalso; first | contradiction | omega))) | ((with_reducible (first | apply TD_e2z | apply TD_e3z | apply TL_e | apply TD_e2 | apply TD_e3)); ((with_reducible apply ES_append1 (enc := intEnc)); exact rfl; exact rfl; (repeat (first | with_reducible exact List.mem_cons_self | with_reducible apply List.mem_cons_of_mem)); exact rfl; exact fun _ => rfl; exact fun _ => rfl; (intro A' c'; first | ((repeat (first | with_reducible exact Upd.here _ _ _ | with_reducible apply Upd.there)); done) | (repeat (first | exact Upd.here _ _ _ | apply Upd.there))); (omega); decide; exact rfl); (first | exact rfl | exact ⟨rfl, rfl, rfl⟩); (rintro _ _ ⟨A', c', rfl, rfl⟩); (try refine ⟨SUB, ?_⟩)) | ((with_reducible (first | apply TD_e2z | apply TD_e3z | apply TL_e | apply TD_e2 | apply TD_e3)); ((with_reducible apply ES_append1 (enc := intEnc)); exact rfl; exact rfl; (repeat (first | with_reducible exact List.mem_cons_self | with_reducible apply List.mem_cons_of_mem)); exact rfl; exact fun _ => rfl; exact fun _ => rfl; (intro A' c'; first | ((repeat (first | with_reducible exact Upd.here _ _ _ | with_reducible apply Upd.there)); done) | (repeat (first | exact Upd.here _ _ _ | apply Upd.there))); ((rw [List.length_append]; simp only [List.length_singleton]; omega)); decide; exact rfl); (first | exact rfl | exact ⟨rfl, rfl, rfl⟩); (rintro _ _ ⟨A', c', rfl, rfl⟩); (try refine ⟨SUB, ?_⟩)) | fail)
        all_goals
          (refine At_ret Try.results53 rfl (fun w' hw => ?_))
          first
            | (have e : setFin kind a (was, out, put) = (out ++ [a], 1 - was) := by simp [setFin, *]
               rw [e]; exact stepd_own (R := (out ++ [a], 1 - was, 0)) (hw.ownOut rfl (by first | ((repeat (first | with_reducible exact List.mem_cons_self | with_reducible apply List.mem_cons_of_mem)); done) | (repeat (first | exact List.Mem.head _ | apply List.Mem.tail)))) (hw.below0 rfl))
            | (have e : setFin kind a (was, out, put) = (out ++ [a], was) := by simp [setFin, *]
               rw [e]; exact stepd_own (R := (out ++ [a], was, 0)) (hw.ownOut rfl (by first | ((repeat (first | with_reducible exact List.mem_cons_self | with_reducible apply List.mem_cons_of_mem)); done) | (repeat (first | exact List.Mem.head _ | apply List.Mem.tail)))) (hw.below0 rfl))
            | (have e : setFin kind a (was, out, put) = (out, 1 - was) := by simp [setFin, *]
               rw [e]; exact stepd_own (R := (out, 1 - was, 0)) (hw.ownOut rfl (by first | ((repeat (first | with_reducible exact List.mem_cons_self | with_reducible apply List.mem_cons_of_mem)); done) | (repeat (first | exact List.Mem.head _ | apply List.Mem.tail)))) (hw.below0 rfl))
            | (have e : setFin kind a (was, out, put) = (out, was) := by simp [setFin, *]
               rw [e]; exact stepd_own (R := (out, was, 0)) (hw.ownOut rfl (by first | ((repeat (first | with_reducible exact List.mem_cons_self | with_reducible apply List.mem_cons_of_mem)); done) | (repeat (first | exact List.Mem.head _ | apply List.Mem.tail)))) (hw.below0 rfl))
end
end Go.Proofs.Ytaonijdhmgcbjaa
