/- clocks.letters: who sent what, and the first mark that isn't right. -/
import Derived.Test.YtnbgcgpkpakicaaClk1
namespace Go.Proofs.Ytnbgcgpkpakicaa
open Go.RowKit

def sentM (l : List Mk) : Nat → List (Int × Int)
  | 0 => []
  | k + 1 => if (l.getD k default).kind = 1 then putM (sentM l k) (l.getD k default).letter k else sentM l k
def gotM (l : List Mk) : Nat → List (Int × Bool)
  | 0 => []
  | k + 1 => if (l.getD k default).kind = 2 then putM (gotM l k) (l.getD k default).letter true else gotM l k
theorem putM_len {α : Type} (k : Int) (v : α) : ∀ D : List (Int × α), lookM D k = none → (putM D k v).length = D.length + 1
  | [], _ => rfl
  | p :: D, h => by
    simp only [lookM] at h
    unfold putM
    split at h
    · cases h
    · rename_i hn
      rw [if_neg hn, List.length_cons, putM_len k v D h, List.length_cons]
structure LetI (l : List Mk) (k : Nat) : Prop where
  len : ((sentM l k).length : Int) = sentN (l.take k)
  rng : ∀ n, (lookM (sentM l k) n).isSome = true ↔ 0 ≤ n ∧ n < sentN (l.take k)
  was : ∀ n, (lookM (sentM l k) n).isSome = wasB (l.take k) n
  got : ∀ n, (lookM (gotM l k) n).getD false = gotB (l.take k) n
theorem markAt_inv {l : List Mk} {k : Nat} (h : markAt l k = 0) : ((l.getD k default).kind = 1 → (l.getD k default).letter = sentN (l.take k)) ∧ ((l.getD k default).kind = 2 → wasB (l.take k) (l.getD k default).letter = true ∧ gotB (l.take k) (l.getD k default).letter = false) ∧ ¬ markBad (l.getD k default) := by
  unfold markAt markE at h
  split at h
  · cases h
  · rename_i hb
    split at h
    · cases h
    · rename_i h1
      split at h
      · cases h
      · rename_i h2
        split at h
        · cases h
        · rename_i h3
          refine ⟨fun e => Decidable.byContradiction fun hn => h1 ⟨e, hn⟩, fun e => ⟨?_, ?_⟩, hb⟩
          · cases hw : wasB (l.take k) (l.getD k default).letter
            · exact absurd ⟨e, hw⟩ h2
            · rfl
          · cases hw : gotB (l.take k) (l.getD k default).letter
            · rfl
            · exact absurd ⟨e, hw⟩ h3
theorem let_inv {l : List Mk} : ∀ k, k ≤ l.length → (∀ j, j < k → markAt l j = 0) → LetI l k
  | 0, _, _ => ⟨by simp [sentM, sentN], fun n => by simp [sentM, sentN, lookM], fun n => by simp [sentM, lookM, wasB], fun n => by simp [gotM, lookM, gotB]⟩
  | k + 1, hk, hno => by
    have I := let_inv k (by omega) (fun j hj => hno j (by omega))
    have hkl : k < l.length := by omega
    obtain ⟨m1, m2, _⟩ := markAt_inv (hno k (by omega))
    have hg : l.getD k default = l[k] := by simp [hkl]
    rw [hg] at m1 m2
    have f1 := sentN_succ hkl
    have f2 := wasB_succ hkl
    have f3 := gotB_succ hkl
    have es : sentM l (k + 1) = if l[k].kind = 1 then putM (sentM l k) l[k].letter k else sentM l k := by rw [sentM, hg]
    have eg : gotM l (k + 1) = if l[k].kind = 2 then putM (gotM l k) l[k].letter true else gotM l k := by rw [gotM, hg]
    by_cases h1 : l[k].kind = 1
    · have hl := m1 h1
      have hnone : lookM (sentM l k) l[k].letter = none := by
        cases hc : lookM (sentM l k) l[k].letter with
        | none => rfl
        | some v =>
          have := (I.rng l[k].letter).1 (by rw [hc]; rfl)
          omega
      rw [if_pos h1] at es f1
      rw [if_neg (by omega)] at eg
      refine ⟨?_, fun n => ?_, fun n => ?_, fun n => ?_⟩
      · rw [es, putM_len _ _ _ hnone, f1]; have := I.len; omega
      · rw [es, lookM_put, f1]
        by_cases e : n = l[k].letter
        · rw [if_pos e]; simp; omega
        · rw [if_neg e, I.rng n]; omega
      · rw [es, lookM_put, f2 n, decide_eq_true h1]
        by_cases e : n = l[k].letter
        · rw [if_pos e, decide_eq_true e.symm]; simp
        · rw [if_neg e, I.was n, decide_eq_false (fun h => e h.symm)]; simp
      · rw [eg, f3 n, I.got n, decide_eq_false (by omega : ¬ l[k].kind = 2)]; simp
    · rw [if_neg h1] at es f1
      by_cases h2 : l[k].kind = 2
      · rw [if_pos h2] at eg
        refine ⟨?_, fun n => ?_, fun n => ?_, fun n => ?_⟩
        · rw [es, f1]; exact I.len
        · rw [es, f1]; exact I.rng n
        · rw [es, f2 n, I.was n, decide_eq_false h1]; simp
        · rw [eg, lookM_put, f3 n, decide_eq_true h2]
          by_cases e : n = l[k].letter
          · rw [if_pos e, decide_eq_true e.symm]; simp
          · rw [if_neg e, I.got n, decide_eq_false (fun h => e h.symm)]; simp
      · rw [if_neg h2] at eg
        refine ⟨?_, fun n => ?_, fun n => ?_, fun n => ?_⟩
        · rw [es, f1]; exact I.len
        · rw [es, f1]; exact I.rng n
        · rw [es, f2 n, I.was n, decide_eq_false h1]; simp
        · rw [eg, f3 n, I.got n, decide_eq_false h2]; simp
set_option maxRecDepth 100000 in
set_option maxHeartbeats 4000000 in
theorem letters_any (A : Option Addr) (c : Nat) (l : List Mk) (w : World) (hl : l.length ≤ 200) (hA : RdE Mk.enc 3 w A l) :
    Calls Try.prog 51 #[.slice A l.length c] w fun e w' => Below w.heap.size w w' ∧
      (((∀ j, j < l.length → markAt l j = 0) ∧ ∃ g, e = .returned (.tuple #[.map (some g), .int .i64 0, .int .i64 0]) ∧ MapI intV w' g (sentM l l.length) ∧ w.heap.size ≤ g ∧ g < w'.heap.size) ∨
       (∃ k, k < l.length ∧ (∀ j, j < k → markAt l j = 0) ∧ markAt l k ≠ 0 ∧ e = .returned (.tuple #[.map none, .int .i64 (markAt l k), .int .i64 (k : Nat)]))) := by
  refine calls_T (S := []) [] Try.func51 rfl Try.ntmps51 (by simp) (Mem.nil _) ?_
  repeat' (first | first | with_reducible apply T_seq | with_reducible apply T_region | with_reducible apply TL_nil | with_reducible apply At_then | with_reducible apply T_block | with_reducible apply At_block | with_reducible apply T_skip | with_reducible apply T_exit | with_reducible apply At_then_exit | with_reducible apply At_block_exit | ((with_reducible apply At_block_past); exact rfl) | with_reducible apply T_ret | with_reducible apply At_then_ret | with_reducible apply At_block_ret | with_reducible apply TD_nil | with_reducible apply TD_fork | ((with_reducible apply TL_q); exact QS.auto; exact rfl) | ((with_reducible apply TL_e); exact ES.auto; exact rfl; (first | (rintro _ _ ⟨rfl, rfl⟩) | (rintro _ _ ⟨g, rfl, rfl⟩) | (rintro _ _ ⟨A', c', rfl, rfl⟩))) | (first | ((with_reducible apply TL_yes); exact rfl; exact rfl; (with_reducible exact rfl)) | ((with_reducible apply TL_no); exact rfl; exact rfl; (first | with_reducible exact Bool.not_true.symm | with_reducible exact Bool.not_false.symm); exact rfl) | ((with_reducible apply TL_no_undef); exact rfl; exact rfl; exact rfl) | (((with_reducible apply TL_guard); exact rfl; exact rfl; (fail_if_success (with_reducible refine imp_lit1 ?_)); (fail_if_success (with_reducible refine imp_lit0))) <;> intro h <;> (try (repeat (first | with_reducible (replace h := of_decide_eq_true h) | with_reducible (replace h := of_decide_eq_false h) | with_reducible (replace h := bnt h) | with_reducible (replace h := bnf h) | with_reducible (replace h := Int.not_lt.mp h) | with_reducible (replace h := Int.not_le.mp h) | with_reducible (replace h := band_dec h) | with_reducible (replace h := band_decF h) | with_reducible (replace h := bor_dec h) | with_reducible (replace h := bor_decF h)))) <;> (try (exfalso; first | contradiction | omega))) | (((with_reducible apply TD_guard); exact rfl; exact rfl; (fail_if_success (with_reducible refine imp_lit1 ?_)); (fail_if_success (with_reducible refine imp_lit0))) <;> intro h <;> (try (repeat (first | with_reducible (replace h := of_decide_eq_true h) | with_reducible (replace h := of_decide_eq_false h) | with_reducible (replace h := bnt h) | with_reducible (replace h := bnf h) | with_reducible (replace h := Int.not_lt.mp h) | with_reducible (replace h := Int.not_le.mp h) | with_reducible (replace h := band_dec h) | with_reducible (replace h := band_decF h) | with_reducible (replace h := bor_dec h) | with_reducible (replace h := bor_decF h)))) <;> (try (exfalso; first | contradiction | omega)))) | (((with_reducible apply T_cond); exact rfl) <;> intro h <;> (try (repeat (first | with_reducible (replace h := of_decide_eq_true h) | with_reducible (replace h := of_decide_eq_false h) | with_reducible (replace h := bnt h) | with_reducible (replace h := bnf h) | with_reducible (replace h := Int.not_lt.mp h) | with_reducible (replace h := Int.not_le.mp h) | with_reducible (replace h := band_dec h) | with_reducible (replace h := band_decF h) | with_reducible (replace h := bor_dec h) | with_reducible (replace h := bor_decF h)))) <;> (try (exfalso; first | contradiction | omega))) | fail)
  rename_i gs
  refine T_loop (X := Nat) (fun k => [(14, .int .i64 (k : Nat)), (13, .int .i64 l.length), (12, .slice A l.length c), (5, .map (some g)), (2, .map (some gs))])
    (fun k => [entMap boolV g (gotM l k), entMap intV gs (sentM l k)]) (fun k => k ≤ l.length ∧ ∀ j, j < k → markAt l j = 0) (fun k => l.length - k) 0 ⟨by omega, fun j hj => by omega⟩ (by (repeat (first | exact SubE.nil _ | refine SubE.cons rfl ?_))) (by (intro w hw; exact hw.sub (by first | ((repeat (first | with_reducible exact List.nil_sublist _ | with_reducible exact List.Sublist.refl _ | with_reducible apply List.Sublist.cons_cons | with_reducible apply List.Sublist.cons)); done) | (repeat (first | exact List.nil_sublist _ | exact List.Sublist.refl _ | apply List.Sublist.cons_cons | apply List.Sublist.cons))))) ?_
  rintro k ⟨hk, hno⟩
  have I := let_inv k hk hno
  by_cases hkl : k < l.length
  · obtain ⟨b, o, rfl, _⟩ := RdE.open hA (by omega)
    have hg : l.getD k default = l[k] := by simp [hkl]
    have ub : markBad l[k] ↔ ((l[k].who < 0 ∨ 7 < l[k].who) ∨ (l[k].kind < 0 ∨ 2 < l[k].kind) ∨ (l[k].kind = 0 ∧ l[k].letter ≠ 0)) := Iff.rfl
    repeat' (first | first | with_reducible apply T_seq | with_reducible apply T_region | with_reducible apply TL_nil | with_reducible apply At_then | with_reducible apply T_block | with_reducible apply At_block | with_reducible apply T_skip | with_reducible apply T_exit | with_reducible apply At_then_exit | with_reducible apply At_block_exit | ((with_reducible apply At_block_past); exact rfl) | with_reducible apply T_ret | with_reducible apply At_then_ret | with_reducible apply At_block_ret | with_reducible apply TD_nil | with_reducible apply TD_fork | ((with_reducible apply TL_q); exact QS.auto; exact rfl) | ((with_reducible apply TL_e); exact ES.auto; exact rfl; (first | (rintro _ _ ⟨rfl, rfl⟩) | (rintro _ _ ⟨g, rfl, rfl⟩) | (rintro _ _ ⟨A', c', rfl, rfl⟩))) | (first | ((with_reducible apply TL_yes); exact rfl; exact rfl; (with_reducible exact rfl)) | ((with_reducible apply TL_no); exact rfl; exact rfl; (first | with_reducible exact Bool.not_true.symm | with_reducible exact Bool.not_false.symm); exact rfl) | ((with_reducible apply TL_no_undef); exact rfl; exact rfl; exact rfl) | (((with_reducible apply TL_guard); exact rfl; exact rfl; (fail_if_success (with_reducible refine imp_lit1 ?_)); (fail_if_success (with_reducible refine imp_lit0))) <;> intro h <;> (try (repeat (first | with_reducible (replace h := of_decide_eq_true h) | with_reducible (replace h := of_decide_eq_false h) | with_reducible (replace h := bnt h) | with_reducible (replace h := bnf h) | with_reducible (replace h := Int.not_lt.mp h) | with_reducible (replace h := Int.not_le.mp h) | with_reducible (replace h := band_dec h) | with_reducible (replace h := band_decF h) | with_reducible (replace h := bor_dec h) | with_reducible (replace h := bor_decF h)))) <;> (try (exfalso; first | contradiction | omega))) | (((with_reducible apply TD_guard); exact rfl; exact rfl; (fail_if_success (with_reducible refine imp_lit1 ?_)); (fail_if_success (with_reducible refine imp_lit0))) <;> intro h <;> (try (repeat (first | with_reducible (replace h := of_decide_eq_true h) | with_reducible (replace h := of_decide_eq_false h) | with_reducible (replace h := bnt h) | with_reducible (replace h := bnf h) | with_reducible (replace h := Int.not_lt.mp h) | with_reducible (replace h := Int.not_le.mp h) | with_reducible (replace h := band_dec h) | with_reducible (replace h := band_decF h) | with_reducible (replace h := bor_dec h) | with_reducible (replace h := bor_decF h)))) <;> (try (exfalso; first | contradiction | omega)))) | (((with_reducible apply T_cond); exact rfl) <;> intro h <;> (try (repeat (first | with_reducible (replace h := of_decide_eq_true h) | with_reducible (replace h := of_decide_eq_false h) | with_reducible (replace h := bnt h) | with_reducible (replace h := bnf h) | with_reducible (replace h := Int.not_lt.mp h) | with_reducible (replace h := Int.not_le.mp h) | with_reducible (replace h := band_dec h) | with_reducible (replace h := band_decF h) | with_reducible (replace h := bor_dec h) | with_reducible (replace h := bor_decF h)))) <;> (try (exfalso; first | contradiction | omega))) | fail)
    all_goals first
      | (have hm : markAt l k = 3 := by rw [markAt, hg]; exact mark3 (ub.2 (by omega))
         (refine At_ret Try.results51 rfl (fun w' hw => ?_))
         exact ⟨hw.below0 rfl, .inr ⟨k, hkl, hno, by rw [hm]; decide, by rw [hm]; rfl⟩⟩)
      | (have hm : markAt l k = 1 := by rw [markAt, hg]; exact mark1 (fun e => by have := ub.1 e; omega) (by assumption) (by rw [← I.len]; assumption)
         (refine At_ret Try.results51 rfl (fun w' hw => ?_))
         exact ⟨hw.below0 rfl, .inr ⟨k, hkl, hno, by rw [hm]; decide, by rw [hm]; rfl⟩⟩)
      | (have hm : markAt l k = 4 := by rw [markAt, hg]; exact mark4 (fun e => by have := ub.1 e; omega) (by assumption) (by rw [← I.was]; assumption)
         (refine At_ret Try.results51 rfl (fun w' hw => ?_))
         exact ⟨hw.below0 rfl, .inr ⟨k, hkl, hno, by rw [hm]; decide, by rw [hm]; rfl⟩⟩)
      | (have hm : markAt l k = 5 := by rw [markAt, hg]; exact mark5 (fun e => by have := ub.1 e; omega) (by assumption) (by rw [← I.was]; assumption) (by rw [← I.got]; assumption)
         (refine At_ret Try.results51 rfl (fun w' hw => ?_))
         exact ⟨hw.below0 rfl, .inr ⟨k, hkl, hno, by rw [hm]; decide, by rw [hm]; rfl⟩⟩)
      | (have k1 : l[k].kind = 1 := by assumption
         have hm : markAt l k = 0 := by rw [markAt, hg]; exact mark0 (fun e => by have := ub.1 e; omega) (fun _ => by rw [← I.len]; assumption) (fun e => by omega)
         have es : sentM l (k + 1) = putM (sentM l k) l[k].letter k := by rw [sentM, hg, if_pos k1]
         have eg : gotM l (k + 1) = gotM l k := by rw [gotM, hg, if_neg (by omega)]
         refine At_rounds (k + 1) ⟨by omega, fun j hj => ?_⟩ (by omega) (by (repeat (first | exact SubE.nil _ | refine SubE.cons rfl ?_))) (fun w hw => ?_)
         · by_cases ej : j = k
           · rw [ej]; exact hm
           · exact hno j (by omega)
         · rw [es, eg]; exact hw.sub (by first | ((repeat (first | with_reducible exact List.nil_sublist _ | with_reducible exact List.Sublist.refl _ | with_reducible apply List.Sublist.cons_cons | with_reducible apply List.Sublist.cons)); done) | (repeat (first | exact List.nil_sublist _ | exact List.Sublist.refl _ | apply List.Sublist.cons_cons | apply List.Sublist.cons))))
      | (have k2 : l[k].kind = 2 := by assumption
         have hm : markAt l k = 0 := by rw [markAt, hg]; exact mark0 (fun e => by have := ub.1 e; omega) (fun e => by omega) (fun _ => ⟨by rw [← I.was]; assumption, by rw [← I.got]; assumption⟩)
         have es : sentM l (k + 1) = sentM l k := by rw [sentM, hg, if_neg (by omega)]
         have eg : gotM l (k + 1) = putM (gotM l k) l[k].letter true := by rw [gotM, hg, if_pos k2]
         refine At_rounds (k + 1) ⟨by omega, fun j hj => ?_⟩ (by omega) (by (repeat (first | exact SubE.nil _ | refine SubE.cons rfl ?_))) (fun w hw => ?_)
         · by_cases ej : j = k
           · rw [ej]; exact hm
           · exact hno j (by omega)
         · rw [es, eg]; exact hw.sub (by first | ((repeat (first | with_reducible exact List.nil_sublist _ | with_reducible exact List.Sublist.refl _ | with_reducible apply List.Sublist.cons_cons | with_reducible apply List.Sublist.cons)); done) | (repeat (first | exact List.nil_sublist _ | exact List.Sublist.refl _ | apply List.Sublist.cons_cons | apply List.Sublist.cons))))
      | (have hm : markAt l k = 0 := by rw [markAt, hg]; exact mark0 (fun e => by have := ub.1 e; omega) (fun e => by omega) (fun e => by omega)
         have es : sentM l (k + 1) = sentM l k := by rw [sentM, hg, if_neg (by assumption)]
         have eg : gotM l (k + 1) = gotM l k := by rw [gotM, hg, if_neg (by assumption)]
         refine At_rounds (k + 1) ⟨by omega, fun j hj => ?_⟩ (by omega) (by (repeat (first | exact SubE.nil _ | refine SubE.cons rfl ?_))) (fun w hw => ?_)
         · by_cases ej : j = k
           · rw [ej]; exact hm
           · exact hno j (by omega)
         · rw [es, eg]; exact hw.sub (by first | ((repeat (first | with_reducible exact List.nil_sublist _ | with_reducible exact List.Sublist.refl _ | with_reducible apply List.Sublist.cons_cons | with_reducible apply List.Sublist.cons)); done) | (repeat (first | exact List.nil_sublist _ | exact List.Sublist.refl _ | apply List.Sublist.cons_cons | apply List.Sublist.cons))))
  · obtain rfl : k = l.length := by omega
    repeat' (first | first | with_reducible apply T_seq | with_reducible apply T_region | with_reducible apply TL_nil | with_reducible apply At_then | with_reducible apply T_block | with_reducible apply At_block | with_reducible apply T_skip | with_reducible apply T_exit | with_reducible apply At_then_exit | with_reducible apply At_block_exit | ((with_reducible apply At_block_past); exact rfl) | with_reducible apply T_ret | with_reducible apply At_then_ret | with_reducible apply At_block_ret | with_reducible apply TD_nil | with_reducible apply TD_fork | ((with_reducible apply TL_q); exact QS.auto; exact rfl) | ((with_reducible apply TL_e); exact ES.auto; exact rfl; (first | (rintro _ _ ⟨rfl, rfl⟩) | (rintro _ _ ⟨g, rfl, rfl⟩) | (rintro _ _ ⟨A', c', rfl, rfl⟩))) | (first | ((with_reducible apply TL_yes); exact rfl; exact rfl; (with_reducible exact rfl)) | ((with_reducible apply TL_no); exact rfl; exact rfl; (first | with_reducible exact Bool.not_true.symm | with_reducible exact Bool.not_false.symm); exact rfl) | ((with_reducible apply TL_no_undef); exact rfl; exact rfl; exact rfl) | (((with_reducible apply TL_guard); exact rfl; exact rfl; (fail_if_success (with_reducible refine imp_lit1 ?_)); (fail_if_success (with_reducible refine imp_lit0))) <;> intro h <;> (try (repeat (first | with_reducible (replace h := of_decide_eq_true h) | with_reducible (replace h := of_decide_eq_false h) | with_reducible (replace h := bnt h) | with_reducible (replace h := bnf h) | with_reducible (replace h := Int.not_lt.mp h) | with_reducible (replace h := Int.not_le.mp h) | with_reducible (replace h := band_dec h) | with_reducible (replace h := band_decF h) | with_reducible (replace h := bor_dec h) | with_reducible (replace h := bor_decF h)))) <;> (try (exfalso; first | contradiction | omega))) | (((with_reducible apply TD_guard); exact rfl; exact rfl; (fail_if_success (with_reducible refine imp_lit1 ?_)); (fail_if_success (with_reducible refine imp_lit0))) <;> intro h <;> (try (repeat (first | with_reducible (replace h := of_decide_eq_true h) | with_reducible (replace h := of_decide_eq_false h) | with_reducible (replace h := bnt h) | with_reducible (replace h := bnf h) | with_reducible (replace h := Int.not_lt.mp h) | with_reducible (replace h := Int.not_le.mp h) | with_reducible (replace h := band_dec h) | with_reducible (replace h := band_decF h) | with_reducible (replace h := bor_dec h) | with_reducible (replace h := bor_decF h)))) <;> (try (exfalso; first | contradiction | omega)))) | (((with_reducible apply T_cond); exact rfl) <;> intro h <;> (try (repeat (first | with_reducible (replace h := of_decide_eq_true h) | with_reducible (replace h := of_decide_eq_false h) | with_reducible (replace h := bnt h) | with_reducible (replace h := bnf h) | with_reducible (replace h := Int.not_lt.mp h) | with_reducible (replace h := Int.not_le.mp h) | with_reducible (replace h := band_dec h) | with_reducible (replace h := band_decF h) | with_reducible (replace h := bor_dec h) | with_reducible (replace h := bor_decF h)))) <;> (try (exfalso; first | contradiction | omega))) | fail)
    (refine At_ret Try.results51 rfl (fun w' hw => ?_))
    have hm := hw.holds (entMap intV gs (sentM l l.length)) (by first | ((repeat (first | with_reducible exact List.mem_cons_self | with_reducible apply List.mem_cons_of_mem)); done) | (repeat (first | exact List.Mem.head _ | apply List.Mem.tail)))
    exact ⟨hw.below0 rfl, .inl ⟨fun j hj => hno j hj, gs, rfl, hm.1, ((hm.2 gs rfl).2).resolve_left (by simp), (hm.2 gs rfl).1⟩⟩
end Go.Proofs.Ytnbgcgpkpakicaa
