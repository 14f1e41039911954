/- Schedules: who fights whom. No condition. -/
import Derived.Test.YtppicbdaijiifaaSer1
import Derived.Test.YtppicbdaijiifaaW
import Derived.Test.YtppicbdaijiifaaE
import Derived.Test.YtppicbdaijiifaaBits
import Derived.Test.YtppicbdaijiifaaOwn2
import Derived.Test.YtppicbdaijiifaaOrdC
import Derived.Test.YtppicbdaijiifaaOrdF
namespace Go.Proofs.Ytppicbdaijiifaa
open Go.RowKit

def confB (a b : Deed) : Bool := !decide (a.who = b.who) && (decide (a.item = b.item) && (decide (a.kind < 2) && (decide (b.kind < 2) && (decide (a.kind = 1) || decide (b.kind = 1)))))
structure DeedsOk (l : List Deed) : Prop where
  len : l.length ≤ 60
  who : ∀ i (h : i < l.length), 0 ≤ l[i].who ∧ l[i].who ≤ 5
  item : ∀ i (h : i < l.length), 0 ≤ l[i].item ∧ l[i].item ≤ 5
theorem deedsOk_of {l : List Deed} (h : (chkD l).2 = 0) : DeedsOk l := by
  obtain ⟨h1, h2⟩ := chkD_fine h
  exact ⟨h1, fun i hi => by have := h2 i hi; omega, fun i hi => by have := h2 i hi; omega⟩
/-- the relation behind so many pairs -/
def cfIn (l : List Deed) (k : Nat) (R : Nat → Nat → Bool) : Nat → Nat → Nat → Bool
  | 0 => R
  | m + 1 => fun i j => cfIn l k R m i j || (decide (k < m) && (confB (dAt l k) (dAt l m) && (decide ((dAt l k).who = (i : Int)) && decide ((dAt l m).who = (j : Int)))))
def cfOut (l : List Deed) : Nat → Nat → Nat → Bool
  | 0 => fun _ _ => false
  | k + 1 => cfIn l k (cfOut l k) l.length
def fightF (l : List Deed) : Nat → Nat := relN (cfOut l l.length) 6
theorem cfIn_low (l : List Deed) (k : Nat) (R : Nat → Nat → Bool) : ∀ m, m ≤ k + 1 → cfIn l k R m = R
  | 0, _ => rfl
  | m + 1, h => by
    funext i j
    rw [cfIn, cfIn_low l k R m (by omega), decide_eq_false (by omega)]; simp
theorem cfIn_no {l : List Deed} {k m : Nat} {R : Nat → Nat → Bool} (h : ¬ k < m ∨ confB (dAt l k) (dAt l m) = false) : cfIn l k R (m + 1) = cfIn l k R m := by
  funext i j
  rw [cfIn]
  rcases h with h | h
  · rw [decide_eq_false h]; simp
  · rw [h]; simp
theorem relN_ext {R R' : Nat → Nat → Bool} {n : Nat} (h : ∀ i j, i < n → j < n → R i j = R' i j) : relN R n = relN R' n := relN_congr h
/-- one more pair, by 'or' and by 'add' -/
theorem relN_or {R R' : Nat → Nat → Bool} {n a b : Nat} (ha : a < n) (hb : b < n) (h : ∀ i j, i < n → j < n → R' i j = (R i j || (decide (a = i) && decide (b = j)))) : upd (relN R n) a (relN R n a ||| 2 ^ b) = relN R' n := by
  funext i
  unfold upd
  by_cases e : i = a
  · subst e
    rw [if_pos rfl]
    unfold relN
    rw [if_pos ha, if_pos ha]
    exact bitsTo_or hb fun j hj => by rw [h i j ha hj]; simp [eq_comm]
  · rw [if_neg e]
    unfold relN
    by_cases hi : i < n
    · rw [if_pos hi, if_pos hi]
      exact bitsTo_same fun j hj => by rw [h i j hi hj, decide_eq_false (fun h => e h.symm)]; simp
    · rw [if_neg hi, if_neg hi]
theorem relN_plus {R R' : Nat → Nat → Bool} {n a b : Nat} (ha : a < n) (hb : b < n) (hno : R a b = false) (h : ∀ i j, i < n → j < n → R' i j = (R i j || (decide (a = i) && decide (b = j)))) : upd (relN R n) a (relN R n a + 2 ^ b) = relN R' n := by
  funext i
  unfold upd
  by_cases e : i = a
  · subst e
    rw [if_pos rfl]
    unfold relN
    rw [if_pos ha, if_pos ha]
    exact bitsTo_add hno hb fun j hj => by rw [h i j ha hj]; simp [eq_comm]
  · rw [if_neg e]
    unfold relN
    by_cases hi : i < n
    · rw [if_pos hi, if_pos hi]
      exact bitsTo_same fun j hj => by rw [h i j hi hj, decide_eq_false (fun h => e h.symm)]; simp
    · rw [if_neg hi, if_neg hi]
set_option maxRecDepth 100000 in
set_option maxHeartbeats 2000000 in
theorem conflict_any (a b : Deed) (w : World) : Calls Try.prog 109 #[.agg (Deed.enc a).toArray, .agg (Deed.enc b).toArray] w fun e w' => e = .returned (.bool (confB a b)) ∧ Below w.heap.size w w' := by
  refine calls_T (S := []) [] Try.func109 rfl Try.ntmps109 (by simp) (Mem.nil _) ?_
  repeat' (first | first | with_reducible apply T_seq | with_reducible apply T_region | with_reducible apply TL_nil | with_reducible apply At_then | with_reducible apply T_block | with_reducible apply At_block | with_reducible apply T_skip | with_reducible apply T_exit | with_reducible apply At_then_exit | with_reducible apply At_block_exit | ((with_reducible apply At_block_past); exact rfl) | with_reducible apply T_ret | with_reducible apply At_then_ret | with_reducible apply At_block_ret | with_reducible apply TD_nil | with_reducible apply TD_fork | ((with_reducible apply TL_q); (first | ((with_reducible apply QS_index (o' := o + (k + 1 + q) * 3)); exact rfl; exact rfl; omega; omega) | exact QS.auto); exact rfl) | ((with_reducible apply TL_e); exact ES.auto; exact rfl; (first | (rintro _ _ ⟨rfl, rfl⟩) | (rintro _ _ ⟨g, rfl, rfl⟩) | (rintro _ _ ⟨A', c', rfl, rfl⟩))) | (first | ((with_reducible apply TL_yes); exact rfl; exact rfl; (with_reducible exact rfl)) | ((with_reducible apply TL_no); exact rfl; exact rfl; (first | with_reducible exact Bool.not_true.symm | with_reducible exact Bool.not_false.symm); exact rfl) | ((with_reducible apply TL_no_undef); exact rfl; exact rfl; exact rfl) | (((with_reducible apply TL_guard); exact rfl; exact rfl; (fail_if_success (with_reducible refine imp_lit1 ?_)); (fail_if_success (with_reducible refine imp_lit0))) <;> intro h <;> (try (repeat (first | with_reducible (replace h := of_decide_eq_true h) | with_reducible (replace h := of_decide_eq_false h) | with_reducible (replace h := bnt h) | with_reducible (replace h := bnf h) | with_reducible (replace h := Int.not_lt.mp h) | with_reducible (replace h := Int.not_le.mp h) | with_reducible (replace h := band_dec h) | with_reducible (replace h := band_decF h) | with_reducible (replace h := bor_dec h) | with_reducible (replace h := bor_decF h)))) <;> (try (exfalso; first | contradiction | omega))) | (((with_reducible apply TD_guard); exact rfl; exact rfl; (fail_if_success (with_reducible refine imp_lit1 ?_)); (fail_if_success (with_reducible refine imp_lit0))) <;> intro h <;> (try (repeat (first | with_reducible (replace h := of_decide_eq_true h) | with_reducible (replace h := of_decide_eq_false h) | with_reducible (replace h := bnt h) | with_reducible (replace h := bnf h) | with_reducible (replace h := Int.not_lt.mp h) | with_reducible (replace h := Int.not_le.mp h) | with_reducible (replace h := band_dec h) | with_reducible (replace h := band_decF h) | with_reducible (replace h := bor_dec h) | with_reducible (replace h := bor_decF h)))) <;> (try (exfalso; first | contradiction | omega)))) | (((with_reducible apply T_cond); exact rfl) <;> intro h <;> (try (repeat (first | with_reducible (replace h := of_decide_eq_true h) | with_reducible (replace h := of_decide_eq_false h) | with_reducible (replace h := bnt h) | with_reducible (replace h := bnf h) | with_reducible (replace h := Int.not_lt.mp h) | with_reducible (replace h := Int.not_le.mp h) | with_reducible (replace h := band_dec h) | with_reducible (replace h := band_decF h) | with_reducible (replace h := bor_dec h) | with_reducible (replace h := bor_decF h)))) <;> (try (exfalso; first | contradiction | omega))) | fail)
  all_goals
    (refine At_ret Try.results109 rfl (fun w' hw => ?_))
    refine ⟨?_, hw.below0 rfl⟩
    congr 1
    show Value.bool _ = Value.bool _
    congr 1
    unfold confB
    rw [Bool.eq_iff_iff]
    simp only [Bool.and_eq_true, Bool.or_eq_true, Bool.not_eq_true', decide_eq_true_eq, decide_eq_false_iff_not]
    first | omega | (simp only [Bool.false_eq_true, false_iff]; omega) | (simp only [true_iff]; omega)
end Go.Proofs.Ytppicbdaijiifaa
