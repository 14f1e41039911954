/- Orders: the least list that a rule of choice gives; masks. -/
import Derived.Test.YtkhdihieepfcpaaOrder2
import Derived.Test.YtkhdihieepfcpaaTy
namespace Go.Proofs.Ytkhdihieepfcpaa
open Go.RowKit

/-- the set of a list's items, as bits -/
def maskOf (out : List Nat) : Nat := out.foldl (fun m i => m ||| 2 ^ i) 0
theorem maskOf_snoc (out : List Nat) (i : Nat) : maskOf (out ++ [i]) = maskOf out ||| 2 ^ i := by simp [maskOf]
theorem maskOf_bit (out : List Nat) (j : Nat) : (maskOf out).testBit j = out.contains j := by
  suffices h : ∀ (out : List Nat) (m : Nat), (out.foldl (fun m i => m ||| 2 ^ i) m).testBit j = (m.testBit j || out.contains j) by
    have := h out 0
    simpa [maskOf] using this
  intro out
  induction out with
  | nil => intro m; simp
  | cons i out ih =>
    intro m
    rw [List.foldl_cons, ih, Nat.testBit_or, Nat.testBit_two_pow, List.contains_cons]
    by_cases h : i = j
    · subst h; simp
    · have h' : ¬ j = i := fun e => h e.symm
      have h2 : (j == i) = false := by simpa using h'
      simp [h, h2]
theorem maskOf_lt (out : List Nat) (n : Nat) (h : ∀ i ∈ out, i < n) : maskOf out < 2 ^ n := by
  apply Nat.lt_pow_two_of_testBit
  intro i hi
  rw [maskOf_bit]
  rw [Bool.eq_false_iff]
  intro hc
  have := h i (by simpa using hc)
  omega
theorem bit_zero (m i : Nat) : ((((m >>> i) &&& 1 : Nat) : Int) = 0) ↔ m.testBit i = false := by
  rw [Nat.testBit, Nat.and_comm]
  constructor
  · intro h
    have : (1 &&& m >>> i : Nat) = 0 := by exact_mod_cast h
    simp [this]
  · intro h
    have : (1 &&& m >>> i : Nat) = 0 := by simpa using h
    exact_mod_cast this
theorem andNot_zero (a b : Nat) (ha : a < 65536) (hb : b < 65536) : (((a &&& (65535 - b) : Nat) : Int) = 0) ↔ ∀ j, a.testBit j = true → b.testBit j = true := by
  have e : (((a &&& (65535 - b) : Nat) : Int) = 0) ↔ (a &&& (65535 - b)) = 0 := by constructor <;> intro h <;> exact_mod_cast h
  rw [e]
  have tb : ∀ j, (65535 - b).testBit j = (decide (j < 16) && !b.testBit j) := fun j => by
    rw [show 65535 - b = 2 ^ 16 - (b + 1) by omega, Nat.testBit_two_pow_sub_succ (by omega)]
  constructor
  · intro h j hj
    have := congrArg (fun x => Nat.testBit x j) h
    simp only [Nat.testBit_and, tb, hj, Nat.zero_testBit, Bool.true_and] at this
    have hj16 : j < 16 := by
      rcases Nat.lt_or_ge j 16 with h | h
      · exact h
      · rw [Nat.testBit_lt_two_pow (Nat.lt_of_lt_of_le ha (show 65536 ≤ 2 ^ j from (show (65536 : Nat) = 2 ^ 16 by decide) ▸ Nat.pow_le_pow_right (by omega) h))] at hj; cases hj
    simpa [hj16] using this
  · intro h
    apply Nat.eq_of_testBit_eq
    intro j
    simp only [Nat.testBit_and, tb, Nat.zero_testBit]
    by_cases hj : a.testBit j = true
    · simp [hj, h j hj]
    · simp [hj]

/-- who may come next -/
def mayC (n : Nat) (f : Nat → Nat) (out : List Nat) (i : Nat) : Bool := !out.contains i && (List.range n).all fun j => !(f j).testBit i || out.contains j
def grow (n : Nat) (f : Nat → Nat) : Nat → List Nat → List Nat
  | 0, out => out
  | m + 1, out => match (List.range n).find? (mayC n f out) with
    | some i => grow n f m (out ++ [i])
    | none => out
def leastL (n : Nat) (f : Nat → Nat) : List Nat := grow n f n []
theorem find_at {n i : Nat} {p : Nat → Bool} (hi : i < n) (h : ∀ k, k < i → p k = false) (hp : p i = true) : (List.range n).find? p = some i := by
  rw [List.find?_range_eq_some]
  exact ⟨hp, by simpa using hi, fun j hj => by simp [h j hj]⟩
theorem may_mask (n : Nat) (f : Nat → Nat) (out : List Nat) (i : Nat) (hn : n ≤ 12) (hout : ∀ k ∈ out, k < n) :
    mayC n f out i = true ↔ ((((maskOf out >>> i) &&& 1 : Nat) : Int) = 0) ∧ (((befF f i n &&& (65535 - maskOf out) : Nat) : Int) = 0) := by
  have hm := maskOf_lt out 16 (fun k hk => by have := hout k hk; omega)
  rw [bit_zero, andNot_zero (befF f i n) _ (bitsTo_lt_16 _ (by omega)) (by simpa using hm), maskOf_bit]
  simp only [mayC, Bool.and_eq_true, Bool.not_eq_true', List.all_eq_true, List.mem_range, Bool.or_eq_true]
  constructor
  · rintro ⟨h1, h2⟩
    refine ⟨h1, fun j hj => ?_⟩
    simp only [befF, bitsTo_testBit, Bool.and_eq_true, decide_eq_true_eq] at hj
    rw [maskOf_bit]
    rcases h2 j hj.1 with h | h
    · rw [hj.2] at h; cases h
    · exact h
  · rintro ⟨h1, h2⟩
    refine ⟨h1, fun j hj => ?_⟩
    cases hb : (f j).testBit i
    · exact .inl rfl
    · right
      have := h2 j (by simp only [befF, bitsTo_testBit, hj, hb]; simp)
      rwa [maskOf_bit] at this
end Go.Proofs.Ytkhdihieepfcpaa
