/- Lemmas for the walks (Sea9). No condition. -/
import Derived.Test.YtaonijdhmgcbjaaG20
set_option linter.unusedSimpArgs false
set_option linter.unusedVariables false
set_option linter.unusedSectionVars false
set_option linter.unnecessarySimpa false
namespace Go.Proofs.Ytaonijdhmgcbjaa
open Go.RowKit

section
variable (k : Int) (s : Stp) (g : Nat) (w : World) (hg : g < w.heap.size) (hc : w.cell? ⟨g, 0, none⟩ = some (.int .i64 k))
include hg hc
set_option maxRecDepth 100000 in
theorem isCall1_any : Calls Try.prog 51 #[.agg (Stp.enc s).toArray, .pointer (some ⟨g, 0, none⟩)] w fun e w' => e = .returned (.bool (decide (s.call = k))) ∧ Below w.heap.size w w' := by
  refine calls_T (S := []) [] Try.func51 rfl Try.ntmps51 (by simp) (Mem.nil _) ?_
  repeat' (first | (refine GO ?_) | (refine GOE ?_; (first | (rintro _ _ ⟨rfl, rfl⟩) | (rintro _ _ ⟨g, rfl, rfl⟩) | (rintro _ _ ⟨A', c', rfl, rfl⟩))) | ((refine GO2 ?_ ?_) <;> intro h <;> (try (repeat (first | with_reducible (replace h := of_decide_eq_true h) | with_reducible (replace h := of_decide_eq_false h) | with_reducible (replace h := bnt h) | with_reducible (replace h := bnf h) | with_reducible (replace h := Int.not_lt.mp h) | with_reducible (replace h := Int.not_le.mp h) | with_reducible (replace h := band_dec h) | with_reducible (replace h := band_decF h) | with_reducible (replace h := bor_dec h) | with_reducible (replace h := bor_decF h)))) <;> (try (exfalso; first | contradiction | omega))) | ((with_reducible apply TL_q); ((with_reducible apply QS_load); exact rfl; exact Lds.old hg (by simp) hc); exact rfl) | fail)
  (refine At_ret Try.results51 rfl (fun w' hw => ?_))
  exact ⟨rfl, hw.below0 rfl⟩
set_option maxRecDepth 100000 in
theorem isCall2_any : Calls Try.prog 55 #[.agg (Stp.enc s).toArray, .pointer (some ⟨g, 0, none⟩)] w fun e w' => e = .returned (.bool (decide (s.call = k))) ∧ Below w.heap.size w w' := by
  refine calls_T (S := []) [] Try.func55 rfl Try.ntmps55 (by simp) (Mem.nil _) ?_
  repeat' (first | (refine GO ?_) | (refine GOE ?_; (first | (rintro _ _ ⟨rfl, rfl⟩) | (rintro _ _ ⟨g, rfl, rfl⟩) | (rintro _ _ ⟨A', c', rfl, rfl⟩))) | ((refine GO2 ?_ ?_) <;> intro h <;> (try (repeat (first | with_reducible (replace h := of_decide_eq_true h) | with_reducible (replace h := of_decide_eq_false h) | with_reducible (replace h := bnt h) | with_reducible (replace h := bnf h) | with_reducible (replace h := Int.not_lt.mp h) | with_reducible (replace h := Int.not_le.mp h) | with_reducible (replace h := band_dec h) | with_reducible (replace h := band_decF h) | with_reducible (replace h := bor_dec h) | with_reducible (replace h := bor_decF h)))) <;> (try (exfalso; first | contradiction | omega))) | ((with_reducible apply TL_q); ((with_reducible apply QS_load); exact rfl; exact Lds.old hg (by simp) hc); exact rfl) | fail)
  (refine At_ret Try.results55 rfl (fun w' hw => ?_))
  exact ⟨rfl, hw.below0 rfl⟩
end
theorem any_take_no {α : Type} {p : α → Bool} {l : List α} {k : Nat} (hk : k < l.length) (h1 : (l.take k).any p = false) (h2 : p l[k] = false) : (l.take (k + 1)).any p = false := by
  rw [List.take_succ_eq_append_getElem hk, List.any_append, h1]; simp [h2]
section
variable (fn : Nat) [IsFn Try.prog fn] (p : Stp → Bool) (cv : Value) (A : Option Addr) (c : Nat) (l : List Stp) (w : World) (hA : RdStp w A l) (hl : l.length ≤ 9223372036854775807)
variable (hp : ∀ s w', Below w.heap.size w w' → Calls Try.prog fn #[.agg (Stp.enc s).toArray, cv] w' fun e w2 => e = .returned (.bool (p s)) ∧ Below w'.heap.size w' w2)
include hA hl hp
set_option maxRecDepth 100000 in
theorem indexStp_any : Calls Try.prog 77 #[.slice A l.length c, .func (.func fn) #[] #[cv]] w fun e w' => (∃ z : Int, e = .returned (.int .i64 z) ∧ decide (0 ≤ z) = l.any p) ∧ Below w.heap.size w w' := by
  refine calls_T (S := []) [] Try.func77 rfl Try.ntmps77 (by simp) (Mem.nil _) ?_
  repeat' (first | (refine GO ?_) | (refine GOE ?_; (first | (rintro _ _ ⟨rfl, rfl⟩) | (rintro _ _ ⟨g, rfl, rfl⟩) | (rintro _ _ ⟨A', c', rfl, rfl⟩))) | ((refine GO2 ?_ ?_) <;> intro h <;> (try (repeat (first | with_reducible (replace h := of_decide_eq_true h) | with_reducible (replace h := of_decide_eq_false h) | with_reducible (replace h := bnt h) | with_reducible (replace h := bnf h) | with_reducible (replace h := Int.not_lt.mp h) | with_reducible (replace h := Int.not_le.mp h) | with_reducible (replace h := band_dec h) | with_reducible (replace h := band_decF h) | with_reducible (replace h := bor_dec h) | with_reducible (replace h := bor_decF h)))) <;> (try (exfalso; first | contradiction | omega))) | fail)
  refine T_loop (X := Nat) (fun k => [(8, .int .i64 (k : Nat)), (7, .int .i64 (l.length : Nat)), (1, .func (.func fn) #[] #[cv]), (0, .slice A l.length c)]) (fun _ => [])
    (fun k => k ≤ l.length ∧ (l.take k).any p = false) (fun k => l.length - k) 0 ⟨by omega, by simp⟩ (by (repeat (first | exact SubE.nil _ | refine SubE.cons rfl ?_))) (by exact SUBS) ?_
  rintro k ⟨hk, hno⟩
  by_cases hkl : k < l.length
  · obtain ⟨b, o, rfl, _⟩ := RdE.open hA (by omega)
    have hb := fun w' hb => hp l[k] w' hb
    generalize hz : p l[k] = z at hb
    repeat' (first | (refine GO ?_) | (refine GOE ?_; (first | (rintro _ _ ⟨rfl, rfl⟩) | (rintro _ _ ⟨g, rfl, rfl⟩) | (rintro _ _ ⟨A', c', rfl, rfl⟩))) | ((refine GO2 ?_ ?_) <;> intro h <;> (try (repeat (first | with_reducible (replace h := of_decide_eq_true h) | with_reducible (replace h := of_decide_eq_false h) | with_reducible (replace h := bnt h) | with_reducible (replace h := bnf h) | with_reducible (replace h := Int.not_lt.mp h) | with_reducible (replace h := Int.not_le.mp h) | with_reducible (replace h := band_dec h) | with_reducible (replace h := band_decF h) | with_reducible (replace h := bor_dec h) | with_reducible (replace h := bor_decF h)))) <;> (try (exfalso; first | contradiction | omega))) | ((with_reducible (first | apply TD_e2z | apply TD_e3z | apply TL_e | apply TD_e2 | apply TD_e3)); ((with_reducible apply ES_callFV (f := fn) (us := []) (cs := [cv]) (v := .bool z)); exact rfl; exact rfl; (intro w' hw; exact hb w' (hw.below0 rfl)); exact rfl); (first | exact rfl | exact ⟨rfl, rfl, rfl⟩); (rintro _ _ ⟨rfl, rfl⟩); (try refine ⟨SUB, ?_⟩)) | fail)
    · (refine At_ret Try.results77 rfl (fun w' hw => ?_))
      have hany : l.any p = true := List.any_eq_true.2 ⟨_, List.getElem_mem hkl, by rw [hz]; assumption⟩
      exact ⟨⟨_, rfl, by rw [hany]; simp⟩, hw.below0 rfl⟩
    · refine At_rounds (k + 1) ⟨hkl, any_take_no hkl hno (by rw [hz]; assumption)⟩ (by omega) (by (repeat (first | exact SubE.nil _ | refine SubE.cons rfl ?_))) (by exact SUBS)
  · obtain rfl : k = l.length := by omega
    rw [List.take_length] at hno
    repeat' (first | (refine GO ?_) | (refine GOE ?_; (first | (rintro _ _ ⟨rfl, rfl⟩) | (rintro _ _ ⟨g, rfl, rfl⟩) | (rintro _ _ ⟨A', c', rfl, rfl⟩))) | ((refine GO2 ?_ ?_) <;> intro h <;> (try (repeat (first | with_reducible (replace h := of_decide_eq_true h) | with_reducible (replace h := of_decide_eq_false h) | with_reducible (replace h := bnt h) | with_reducible (replace h := bnf h) | with_reducible (replace h := Int.not_lt.mp h) | with_reducible (replace h := Int.not_le.mp h) | with_reducible (replace h := band_dec h) | with_reducible (replace h := band_decF h) | with_reducible (replace h := bor_dec h) | with_reducible (replace h := bor_decF h)))) <;> (try (exfalso; first | contradiction | omega))) | fail)
    (refine At_ret Try.results77 rfl (fun w' hw => ?_))
    exact ⟨⟨_, rfl, by rw [hno]; decide⟩, hw.below0 rfl⟩
set_option maxRecDepth 100000 in
theorem hasStp_any : Calls Try.prog 50 #[.slice A l.length c, .func (.func fn) #[] #[cv]] w fun e w' => e = .returned (.bool (l.any p)) ∧ Below w.heap.size w w' := by
  refine calls_T (S := []) [] Try.func50 rfl Try.ntmps50 (by simp) (Mem.nil _) ?_
  repeat' (first | (refine GO ?_) | (refine GOE ?_; (first | (rintro _ _ ⟨rfl, rfl⟩) | (rintro _ _ ⟨g, rfl, rfl⟩) | (rintro _ _ ⟨A', c', rfl, rfl⟩))) | ((refine GO2 ?_ ?_) <;> intro h <;> (try (repeat (first | with_reducible (replace h := of_decide_eq_true h) | with_reducible (replace h := of_decide_eq_false h) | with_reducible (replace h := bnt h) | with_reducible (replace h := bnf h) | with_reducible (replace h := Int.not_lt.mp h) | with_reducible (replace h := Int.not_le.mp h) | with_reducible (replace h := band_dec h) | with_reducible (replace h := band_decF h) | with_reducible (replace h := bor_dec h) | with_reducible (replace h := bor_decF h)))) <;> (try (exfalso; first | contradiction | omega))) | ((with_reducible (first | apply TD_e2z | apply TD_e3z | apply TL_e | apply TD_e2 | apply TD_e3)); ((with_reducible apply ES_callX (f := 77) (X := {z : Int // decide (0 ≤ z) = l.any p}) (S1 := []) (fun z => .int .i64 z.1) (fun _ => [])); exact rfl; exact Pull.nil _; (intro x; exact AppL.nil _); (intro w' hw; exact (indexStp_any fn p cv A c l w' (hw.rd rfl hA) hl (fun s w2 hb => hp s w2 (bel_trans (hw.below0 rfl) hb))).mono fun e w2 ⟨⟨z, he, hz⟩, hb⟩ => ⟨⟨z, hz⟩, he, (Mem.nil ⟨0, [], w'⟩).below hb⟩); exact rfl); (first | exact rfl | exact ⟨rfl, rfl, rfl⟩); (rintro _ _ ⟨⟨z, hz⟩, rfl, rfl⟩); (try refine ⟨SUB, ?_⟩)) | fail)
  (refine At_ret Try.results50 rfl (fun w' hw => ?_))
  exact ⟨congrArg (fun b => Ending.returned (Value.bool b)) hz, hw.below0 rfl⟩
end
end Go.Proofs.Ytaonijdhmgcbjaa
