/- Warshall's rounds end in what can be reached. No condition beyond those that each lemma names. -/
import Derived.Test.YtkhdihieepfcpaaOrder3
namespace Go.Proofs.Ytkhdihieepfcpaa

/-- by at least one step -/
inductive Rch (g : Nat → Nat → Prop) : Nat → Nat → Prop
  | one {i j : Nat} (h : g i j) : Rch g i j
  | step {i k j : Nat} (h : g i k) (t : Rch g k j) : Rch g i j
theorem Rch.trans {g : Nat → Nat → Prop} {i j : Nat} (h : Rch g i j) : ∀ {k}, Rch g j k → Rch g i k := by
  induction h with
  | one h => exact fun t => .step h t
  | step h _ ih => exact fun t => .step h (ih t)
def bitR (f : Nat → Nat) (i j : Nat) : Prop := (f i).testBit j = true
theorem wIn_bit (f : Nat → Nat) (k : Nat) : ∀ m i, i < m ∨ m ≤ i → ∀ j, (wIn f k m i).testBit j = if i < m then (f i).testBit j || ((f i).testBit k && (f k).testBit j) else (f i).testBit j
  | 0, i, _, j => by simp [wIn]
  | m + 1, i, _, j => by
    have ih := fun i => wIn_bit f k m i (by omega)
    have ek : ∀ j, (wIn f k m k).testBit j = (f k).testBit j := by
      intro j; rw [ih k j]; split <;> simp
    show (wStep k (wIn f k m) m i).testBit j = _
    unfold wStep
    have em : (wIn f k m m).testBit k = (f m).testBit k := by rw [ih m k, if_neg (by omega)]
    rw [em]
    split
    · rename_i hb
      unfold upd
      by_cases him : i = m
      · subst him
        simp only [if_true, Nat.testBit_or, ek]
        rw [ih i j, if_neg (by omega), if_pos (by omega)]
        simp [hb]
      · simp only [him, if_false]
        rw [ih i j]
        by_cases h2 : i < m
        · rw [if_pos h2, if_pos (by omega)]
        · rw [if_neg h2, if_neg (by omega)]
    · rename_i hb
      rw [ih i j]
      by_cases him : i = m
      · subst him
        rw [if_neg (by omega), if_pos (by omega)]
        simp [hb]
      · by_cases h2 : i < m
        · rw [if_pos h2, if_pos (by omega)]
        · rw [if_neg h2, if_neg (by omega)]
theorem wOut_bit (f : Nat → Nat) (n k i j : Nat) (hi : i < n) : (wOut f n (k + 1) i).testBit j = ((wOut f n k i).testBit j || ((wOut f n k i).testBit k && (wOut f n k k).testBit j)) := by
  show (wIn (wOut f n k) k n i).testBit j = _
  rw [wIn_bit _ _ _ _ (by omega), if_pos hi]
theorem wOut_sound (f : Nat → Nat) (n : Nat) : ∀ k, k ≤ n → ∀ i j, i < n → (wOut f n k i).testBit j = true → Rch (bitR f) i j
  | 0, _, i, j, _, h => .one h
  | k + 1, hk, i, j, hi, h => by
    rw [wOut_bit f n k i j hi] at h
    simp only [Bool.or_eq_true, Bool.and_eq_true] at h
    rcases h with h | ⟨h1, h2⟩
    · exact wOut_sound f n k (by omega) i j hi h
    · exact (wOut_sound f n k (by omega) i k hi h1).trans (wOut_sound f n k (by omega) k j (by omega) h2)
theorem wOut_mono (f : Nat → Nat) (n : Nat) : ∀ k, k ≤ n → ∀ i j, i < n → (f i).testBit j = true → (wOut f n k i).testBit j = true
  | 0, _, i, j, _, h => h
  | k + 1, hk, i, j, hi, h => by
    rw [wOut_bit f n k i j hi, wOut_mono f n k (by omega) i j hi h]; rfl
theorem wOut_trans (f : Nat → Nat) (n : Nat) : ∀ k, k ≤ n → ∀ p, p < k → ∀ i j, i < n → (wOut f n k i).testBit p = true → (wOut f n k p).testBit j = true → (wOut f n k i).testBit j = true
  | 0, _, p, hp, _, _, _, _, _ => by omega
  | k + 1, hk, p, hp, i, j, hi, h1, h2 => by
    have T := wOut_trans f n k (by omega)
    rw [wOut_bit f n k i p hi] at h1
    rw [wOut_bit f n k p j (by omega)] at h2
    rw [wOut_bit f n k i j hi]
    simp only [Bool.or_eq_true, Bool.and_eq_true] at h1 h2 ⊢
    by_cases hpk : p < k
    · rcases h1 with h1 | ⟨h1, h1'⟩ <;> rcases h2 with h2 | ⟨h2, h2'⟩
      · exact .inl (T p hpk i j hi h1 h2)
      · exact .inr ⟨T p hpk i k hi h1 h2, h2'⟩
      · exact .inr ⟨h1, T p hpk k j (by omega) h1' h2⟩
      · exact .inr ⟨h1, h2'⟩
    · obtain rfl : p = k := by omega
      have a1 : (wOut f n p i).testBit p = true := by rcases h1 with h | h; exact h; exact h.1
      have a2 : (wOut f n p p).testBit j = true := by rcases h2 with h | h; exact h; exact h.2
      exact .inr ⟨a1, a2⟩
/-- the closure: what can be reached -/
theorem closedF_rch {n : Nat} {f : Nat → Nat} (hf : ∀ i, i < n → f i < 2 ^ n) {i j : Nat} (hi : i < n) : (closedF n f i).testBit j = true ↔ Rch (bitR f) i j := by
  refine ⟨wOut_sound f n n (Nat.le_refl _) i j hi, fun h => ?_⟩
  induction h with
  | one h => exact wOut_mono f n n (Nat.le_refl _) _ _ hi h
  | @step i k j h _ ih =>
    have hk : k < n := by
      rcases Nat.lt_or_ge k n with h' | h'
      · exact h'
      · have : (f i).testBit k = false := Nat.testBit_lt_two_pow (Nat.lt_of_lt_of_le (hf i hi) (Nat.pow_le_pow_right (by decide) h'))
        rw [bitR, this] at h; cases h
    exact wOut_trans f n n (Nat.le_refl _) k hk i j hi (wOut_mono f n n (Nat.le_refl _) _ _ hi h) (ih hk)
end Go.Proofs.Ytkhdihieepfcpaa
