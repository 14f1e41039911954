/- OrderLists: sets of colours (plain); fits. No condition. -/
import Derived.Test.YtkhdihieepfcpaaOlB
namespace Go.Proofs.Ytkhdihieepfcpaa
open Go.RowKit

/-! plain: the sets of a list of colours -/
def maskC (l : List Nat) (k : Nat) : Nat := maskOf ((List.range l.length).filter fun j => decide (l.getD j 0 = k))
def setsL (l : List Nat) : List Nat := (List.range (fresh l)).map (maskC l)
theorem maskC_bit (l : List Nat) (k j : Nat) : (maskC l k).testBit j = (decide (j < l.length) && decide (l.getD j 0 = k)) := by
  unfold maskC
  rw [maskOf_bit, Bool.eq_iff_iff]
  simp
theorem maskC_lt (l : List Nat) (k : Nat) : maskC l k < 2 ^ l.length := maskOf_lt _ _ fun i hi => by simpa using (List.mem_filter.1 hi).1
theorem maskC_snoc_same (l : List Nat) (k : Nat) : maskC (l ++ [k]) k = maskC l k ||| 2 ^ l.length := by
  apply Nat.eq_of_testBit_eq
  intro j
  rw [Nat.testBit_or, Nat.testBit_two_pow, maskC_bit, maskC_bit]
  rcases Nat.lt_trichotomy j l.length with h | h | h
  · have e : (l ++ [k]).getD j 0 = l.getD j 0 := by simp [List.getD_eq_getElem?_getD, List.getElem?_append_left h]
    have : ¬ l.length = j := by omega
    rw [e]; simp [h, this]; omega
  · subst h
    have e : (l ++ [k]).getD l.length 0 = k := by simp [List.getD_eq_getElem?_getD]
    rw [e]; simp
  · have h1 : ¬ l.length = j := by omega
    have h2 : ¬ j < l.length := by omega
    have h3 : ¬ j < l.length + 1 := by omega
    simp [h1, h2, h3]
theorem maskC_snoc_other (l : List Nat) {k q : Nat} (h : q ≠ k) : maskC (l ++ [k]) q = maskC l q := by
  apply Nat.eq_of_testBit_eq
  intro j
  rw [maskC_bit, maskC_bit]
  rcases Nat.lt_trichotomy j l.length with h1 | h1 | h1
  · have e : (l ++ [k]).getD j 0 = l.getD j 0 := by simp [List.getD_eq_getElem?_getD, List.getElem?_append_left h1]
    have : j < l.length + 1 := by omega
    rw [e]; simp [h1, this]
  · subst h1
    have e : (l ++ [k]).getD l.length 0 = k := by simp [List.getD_eq_getElem?_getD]
    have : ¬ k = q := fun e => h e.symm
    rw [e]; simp [this]
  · have h2 : ¬ j < l.length := by omega
    have h3 : ¬ j < l.length + 1 := by omega
    simp [h2, h3]
theorem maskC_fresh (l : List Nat) {k : Nat} (h : fresh l ≤ k) : maskC l k = 0 := by
  apply Nat.eq_of_testBit_eq
  intro j
  rw [maskC_bit, Nat.zero_testBit, Bool.and_eq_false_iff]
  by_cases hj : j < l.length
  · right
    have := lt_fresh (l := l) l[j] (List.getElem_mem hj)
    have e : l.getD j 0 = l[j] := by simp [List.getD_eq_getElem?_getD, hj]
    rw [decide_eq_false_iff_not, e]; omega
  · left; simpa using hj
theorem setsL_len (l : List Nat) : (setsL l).length = fresh l := by simp [setsL]
theorem setsL_at (l : List Nat) {k : Nat} (h : k < (setsL l).length) : (setsL l)[k] = maskC l k := by simp [setsL]
/-- the sets, with room for the colour k -/
def setsK (l : List Nat) (k : Nat) : List Nat := if k = fresh l then setsL l ++ [0] else setsL l
theorem setsK_len (l : List Nat) {k : Nat} (h : k ≤ fresh l) : k < (setsK l k).length := by
  unfold setsK; split <;> simp [setsL_len] <;> omega
theorem setsK_at (l : List Nat) {k : Nat} (hk : k ≤ fresh l) (q : Nat) (h : q < (setsK l k).length) : (setsK l k)[q] = maskC l q := by
  unfold setsK at h ⊢
  split at h
  · rename_i e
    simp only [e, if_true]
    by_cases hq : q < (setsL l).length
    · rw [List.getElem_append_left hq, setsL_at]
    · have e2 : q = fresh l := by simp [setsL_len] at h hq; omega
      subst e2
      rw [maskC_fresh l (Nat.le_refl _)]
      rw [List.getElem_append_right (by rw [setsL_len]; exact Nat.le_refl _)]
      simp
  · rename_i e
    simp only [e, if_false]
    exact setsL_at l h
theorem setsK_put (l : List Nat) {k : Nat} (hk : k ≤ fresh l) : (setsK l k).set k (maskC l k ||| 2 ^ l.length) = setsL (l ++ [k]) := by
  apply List.ext_getElem
  · rw [List.length_set, setsL_len, fresh_snoc]
    unfold setsK; split <;> simp [setsL_len] <;> omega
  · intro q h1 h2
    rw [setsL_at, List.getElem_set]
    split
    · rename_i e; subst e; rw [maskC_snoc_same]
    · rename_i e
      rw [setsK_at l hk, maskC_snoc_other l (fun h => e h.symm)]
theorem andNot_back (m i : Nat) (hm : m < 65536) (hi : i < 16) (hb : m.testBit i = false) : (m ||| 2 ^ i) &&& (65535 - 2 ^ i) = m := by
  have hp : 2 ^ i < 65536 := by rw [show 65536 = 2 ^ 16 by rfl]; exact Nat.pow_lt_pow_right (by decide) hi
  apply Nat.eq_of_testBit_eq
  intro j
  have e : 65535 - 2 ^ i = 2 ^ 16 - (2 ^ i + 1) := by omega
  rw [Nat.testBit_and, Nat.testBit_or, e, Nat.testBit_two_pow_sub_succ (by omega), Nat.testBit_two_pow]
  by_cases hj : j < 16
  · by_cases h : i = j
    · subst h; simp [hb]
    · simp [hj, h]
  · have : m.testBit j = false := Nat.testBit_lt_two_pow (Nat.lt_of_lt_of_le hm (by rw [show 65536 = 2 ^ 16 by rfl]; exact Nat.pow_le_pow_right (by decide) (by omega)))
    simp [this, hj]
theorem setsK_take (l : List Nat) {k : Nat} (hk : k ≤ fresh l) (hl : l.length < 12) : (setsL (l ++ [k])).set k (maskC (l ++ [k]) k &&& (65535 - 2 ^ l.length)) = setsK l k := by
  have hlt : maskC l k < 65536 := Nat.lt_trans (maskC_lt l k) (by rw [show 65536 = 2 ^ 16 by rfl]; exact Nat.pow_lt_pow_right (by decide) (by omega))
  rw [maskC_snoc_same, andNot_back _ _ hlt (by omega) (by rw [maskC_bit]; simp), ← setsK_put l hk, List.set_set]
  apply List.ext_getElem
  · simp
  · intro q h1 h2
    rw [List.getElem_set]
    split
    · rename_i e; subst e; rw [setsK_at l hk]
    · rfl
/-- each number below the next one is there -/
def Rg (l : List Nat) : Prop := ∀ k, k < fresh l → k ∈ l
theorem Rg.snoc {l : List Nat} {k : Nat} (h : Rg l) (hk : k ≤ fresh l) : Rg (l ++ [k]) := by
  intro q hq
  rw [fresh_snoc] at hq
  rw [List.mem_append, List.mem_singleton]
  by_cases e : q = k
  · exact .inr e
  · exact .inl (h q (by omega))
theorem setsK_last {l : List Nat} (h : Rg l) {k : Nat} (hk : k ≤ fresh l) : ((setsK l k).getD ((setsK l k).length - 1) 0 = 0) ↔ k = fresh l := by
  have hlen := setsK_len l hk
  rw [List.getD_eq_getElem?_getD, List.getElem?_eq_getElem (by omega), Option.getD_some, setsK_at l hk]
  constructor
  · intro h0
    refine Classical.byContradiction fun hne => ?_
    have hl : (setsK l k).length = fresh l := by unfold setsK; rw [if_neg hne, setsL_len]
    rw [hl] at h0
    have hm := h (fresh l - 1) (by omega)
    obtain ⟨j, hj, he⟩ := List.getElem_of_mem hm
    have hb := maskC_bit l (fresh l - 1) j
    rw [h0, Nat.zero_testBit] at hb
    simp [hj, List.getD_eq_getElem?_getD, he] at hb
  · intro e
    subst e
    have hl : (setsK l (fresh l)).length = fresh l + 1 := by unfold setsK; rw [if_pos rfl]; simp [setsL_len]
    rw [hl]; exact maskC_fresh l (by omega)
end Go.Proofs.Ytkhdihieepfcpaa
