/- Relations that are built pair by pair (plain). No condition. -/
import Derived.Test.YtppicbdaijiifaaBits
set_option linter.unusedSimpArgs false
set_option linter.unusedVariables false
set_option linter.unusedSectionVars false
set_option linter.unnecessarySimpa false
namespace Go.Proofs.Ytppicbdaijiifaa

def orP (P Q : Nat → Nat → Bool) (k m : Nat) (i j : Nat) : Bool := P i j || (Q i j && (decide (i < k) || (decide (i = k) && decide (j < m))))
def relN (R : Nat → Nat → Bool) (n : Nat) : Nat → Nat := fun i => if i < n then bitsTo (R i) n else 0
theorem bitsTo_same {p q : Nat → Bool} : ∀ {n : Nat}, (∀ j, j < n → p j = q j) → bitsTo p n = bitsTo q n
  | 0, _ => rfl
  | n + 1, h => by rw [bitsTo, bitsTo, bitsTo_same (fun j hj => h j (by omega)), h n (by omega)]
theorem bitsTo_off {p : Nat → Bool} : ∀ {n : Nat}, (∀ j, j < n → p j = false) → bitsTo p n = 0
  | 0, _ => rfl
  | n + 1, h => by rw [bitsTo, bitsTo_off (fun j hj => h j (by omega)), h n (by omega)]; rfl
theorem relN_congr {R R' : Nat → Nat → Bool} {n : Nat} (h : ∀ i j, i < n → j < n → R i j = R' i j) : relN R n = relN R' n := by
  funext i
  unfold relN
  by_cases hi : i < n
  · rw [if_pos hi, if_pos hi]; exact bitsTo_same fun j hj => h i j hi hj
  · rw [if_neg hi, if_neg hi]
theorem relN_0 (n : Nat) : relN (fun _ _ => false) n = fun _ => 0 := by
  funext i
  unfold relN
  split
  · exact bitsTo_off fun _ _ => rfl
  · rfl
theorem bitsTo_or {p q : Nat → Bool} {n m : Nat} (hm : m < n) (hq : ∀ j, j < n → q j = (p j || decide (j = m))) : bitsTo p n ||| 2 ^ m = bitsTo q n := by
  apply Nat.eq_of_testBit_eq
  intro j
  rw [Nat.testBit_or, bitsTo_testBit, bitsTo_testBit, Nat.testBit_two_pow]
  by_cases hj : j < n
  · rw [decide_eq_true hj, hq j hj]
    by_cases e : j = m
    · subst e; simp
    · rw [decide_eq_false e, decide_eq_false (fun h => e h.symm)]; simp
  · rw [decide_eq_false hj, decide_eq_false (show ¬ m = j by omega)]; rfl
theorem bitsTo_add {p q : Nat → Bool} {m : Nat} (hp : p m = false) : ∀ {n : Nat}, m < n → (∀ j, j < n → q j = (p j || decide (j = m))) → bitsTo p n + 2 ^ m = bitsTo q n
  | 0, h, _ => by omega
  | n + 1, hm, hq => by
    rw [bitsTo, bitsTo]
    have hn := hq n (by omega)
    by_cases e : n = m
    · subst e
      have h1 : bitsTo q n = bitsTo p n := bitsTo_same fun j hj => by rw [hq j (by omega), decide_eq_false (show ¬ j = n by omega)]; simp
      rw [h1, hn, hp, decide_eq_true rfl]; simp
    · have ih := bitsTo_add hp (n := n) (by omega) (fun j hj => hq j (by omega))
      rw [hn, decide_eq_false e, Bool.or_false]
      omega
section
variable {P Q : Nat → Nat → Bool} {n k m : Nat}
theorem orP_0 : orP P Q 0 0 = P := by
  funext i j
  unfold orP
  rw [decide_eq_false (show ¬ i < 0 by omega), decide_eq_false (show ¬ j < 0 by omega)]; simp
theorem relN_next : relN (orP P Q k n) n = relN (orP P Q (k + 1) 0) n := relN_congr fun i j hi hj => by
  unfold orP
  rw [decide_eq_true hj, decide_eq_false (show ¬ j < 0 by omega), Bool.and_true, Bool.and_false, Bool.or_false]
  congr 2
  rw [Bool.eq_iff_iff]; simp; omega
theorem relN_done : relN (orP P Q n 0) n = relN (fun i j => P i j || Q i j) n := relN_congr fun i j hi hj => by
  unfold orP
  rw [decide_eq_true hi]; simp
theorem orP_step (j : Nat) : orP P Q k (m + 1) k j = (orP P Q k m k j || (Q k m && decide (j = m))) := by
  unfold orP
  by_cases e : j = m
  · subst e
    rw [decide_eq_true (show j < j + 1 by omega), decide_eq_false (show ¬ j < j by omega)]; simp
  · rw [decide_eq_false e]
    have : decide (j < m + 1) = decide (j < m) := by rw [Bool.eq_iff_iff]; simp; omega
    rw [this]; simp
theorem orP_else {i : Nat} (h : i ≠ k) (m' j : Nat) : orP P Q k m i j = orP P Q k m' i j := by
  unfold orP; rw [decide_eq_false h]; simp
theorem relN_yes (hk : k < n) (hm : m < n) (h : Q k m = true) : upd (relN (orP P Q k m) n) k (relN (orP P Q k m) n k ||| 2 ^ m) = relN (orP P Q k (m + 1)) n := by
  funext i
  unfold upd relN
  by_cases e : i = k
  · subst e
    rw [if_pos rfl, if_pos hk, if_pos hk]
    exact bitsTo_or hm fun j _ => by rw [orP_step, h, Bool.true_and]
  · rw [if_neg e]
    split
    · exact bitsTo_same fun j _ => orP_else e _ _
    · rfl
theorem relN_add (hk : k < n) (hm : m < n) (h : Q k m = true) (hp : P k m = false) : upd (relN (orP P Q k m) n) k (relN (orP P Q k m) n k + 2 ^ m) = relN (orP P Q k (m + 1)) n := by
  funext i
  unfold upd relN
  by_cases e : i = k
  · subst e
    rw [if_pos rfl, if_pos hk, if_pos hk]
    exact bitsTo_add (by unfold orP; rw [hp]; simp) hm fun j _ => by rw [orP_step, h, Bool.true_and]
  · rw [if_neg e]
    split
    · exact bitsTo_same fun j _ => orP_else e _ _
    · rfl
theorem relN_no (h : Q k m = false) : relN (orP P Q k m) n = relN (orP P Q k (m + 1)) n := relN_congr fun i j hi hj => by
  by_cases e : i = k
  · subst e; rw [orP_step, h]; simp
  · exact orP_else e _ _
theorem relN_had (h : P k m = true) : relN (orP P Q k m) n = relN (orP P Q k (m + 1)) n := relN_congr fun i j hi hj => by
  by_cases e : i = k
  · subst e
    rw [orP_step]
    by_cases e2 : j = m
    · subst e2; unfold orP; rw [h]; simp
    · rw [decide_eq_false e2]; simp
  · exact orP_else e _ _
theorem relN_skip {m' : Nat} (hmm : m ≤ m') (h : ∀ j, m ≤ j → j < m' → Q k j = false) : relN (orP P Q k m) n = relN (orP P Q k m') n := relN_congr fun i j hi hj => by
  by_cases e : i = k
  · subst e
    unfold orP
    by_cases h1 : j < m
    · rw [decide_eq_true h1, decide_eq_true (show j < m' by omega)]
    · by_cases h2 : j < m'
      · rw [h j (by omega) h2]; simp
      · rw [decide_eq_false h1, decide_eq_false h2]
  · exact orP_else e _ _
end
theorem relN_lt (R : Nat → Nat → Bool) {n : Nat} (hn : n ≤ 16) (i : Nat) : relN R n i < 65536 := by
  unfold relN
  split
  · exact bitsTo_lt_16 _ hn
  · decide
theorem relN_lt_n (R : Nat → Nat → Bool) (n i : Nat) : relN R n i < 2 ^ n := by
  unfold relN
  split
  · exact bitsTo_lt _ _
  · exact Nat.pow_pos (by decide)
theorem relN_bit (R : Nat → Nat → Bool) (n i j : Nat) : (relN R n i).testBit j = (decide (i < n) && (decide (j < n) && R i j)) := by
  unfold relN
  by_cases h : i < n
  · rw [if_pos h, bitsTo_testBit, decide_eq_true h, Bool.true_and]
  · rw [if_neg h, decide_eq_false h]; simp
end Go.Proofs.Ytppicbdaijiifaa
