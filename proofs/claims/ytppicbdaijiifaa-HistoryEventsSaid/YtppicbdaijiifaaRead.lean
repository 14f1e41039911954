/- Slices that read as lists; rows of numbers; plain lemmas on lists. -/
import Derived.Test.YtppicbdaijiifaaBase
set_option linter.unusedSimpArgs false
set_option linter.unusedVariables false
set_option linter.unusedSectionVars false
set_option linter.unnecessarySimpa false
namespace Go.Proofs.Ytppicbdaijiifaa
open Go.RowKit

/-- the slice's address reads as the list: each element lies in m cells -/
def RdE {α : Type} (enc : α → List Value) (m : Nat) (w : World) (A : Option Addr) (l : List α) : Prop :=
  ∀ i x, l[i]? = some x → ∃ b o, A = some ⟨b, o, none⟩ ∧ b < w.heap.size ∧ ∀ j v, (enc x)[j]? = some v → w.cell? ⟨b, o + i * m + j, none⟩ = some v
section
variable {α : Type} {enc : α → List Value} {m : Nat} {w w' : World} {A : Option Addr} {l : List α}
theorem RdE.below (h : RdE enc m w A l) (hb : Below w.heap.size w w') : RdE enc m w' A l := by
  intro i s hs
  obtain ⟨b, o, h1, h2, h3⟩ := h i s hs
  exact ⟨b, o, h1, Nat.lt_of_lt_of_le h2 hb.size, fun j v hv => (hb.cell (p := ⟨b, _, none⟩) h2).trans (h3 j v hv)⟩
theorem RdE.at_ (h : RdE enc m w A l) (hb : Below w.heap.size w w') (k : Nat) (hk : k < l.length) :
    ∃ b o, A = some ⟨b, o, none⟩ ∧ b < w.heap.size ∧ b < w'.heap.size ∧ ∀ j v, (enc l[k])[j]? = some v → w'.cell? ⟨b, o + k * m + j, none⟩ = some v := by
  obtain ⟨b, o, h1, h2, h3⟩ := h k l[k] (by simp [hk])
  exact ⟨b, o, h1, h2, Nat.lt_of_lt_of_le h2 hb.size, fun j v hv => (hb.cell (p := ⟨b, _, none⟩) h2).trans (h3 j v hv)⟩
theorem RdE.take (h : RdE enc m w A l) (k : Nat) : RdE enc m w A (l.take k) := by
  intro i x hx
  rw [List.getElem?_take] at hx
  split at hx
  · exact h i x hx
  · cases hx
theorem RdE.nil (A : Option Addr) : RdE enc m w A [] := fun i x hx => by simp at hx
end

theorem foldl_take_succ {α β : Type} (f : β → α → β) (b : β) (l : List α) (k : Nat) (hk : k < l.length) : (l.take (k + 1)).foldl f b = f ((l.take k).foldl f b) l[k] := by
  rw [List.take_succ_eq_append_getElem hk, List.foldl_append]
  rfl
theorem any_take_succ' {α : Type} {p : α → Bool} {l : List α} {k : Nat} (hk : k < l.length) (h : (l.take k).any p = false) (hb : p l[k] = false) : (l.take (k + 1)).any p = false := by
  rw [List.take_succ_eq_append_getElem hk, List.any_append, h]
  simp [hb]
theorem all_take_succ {α : Type} {p : α → Bool} {l : List α} {k : Nat} (hk : k < l.length) : (l.take (k + 1)).all p = ((l.take k).all p && p l[k]) := by
  rw [List.take_succ_eq_append_getElem hk, List.all_append]
  simp
theorem findIdx_at {α : Type} {p : α → Bool} {l : List α} {k : Nat} (hk : k < l.length) (h : (l.take k).any p = false) (hb : p l[k] = true) : l.findIdx p = k := by
  rw [List.findIdx_eq hk]
  refine ⟨hb, fun j hj => ?_⟩
  have := List.any_eq_false.1 h l[j] (by rw [List.mem_take_iff_getElem]; exact ⟨j, by omega, rfl⟩)
  simpa using this
theorem findIdx_none {α : Type} {p : α → Bool} {l : List α} (h : (l.take l.length).any p = false) : l.findIdx p = l.length := by
  rw [List.take_length] at h
  rw [List.findIdx_eq_length]
  intro x hx
  have := List.any_eq_false.1 h x hx
  simpa using this

/-- numbers, in a row -/
def ints (f : Nat → Int) (n : Nat) : Array Value := ((List.range n).map fun i => Value.int .i64 (f i)).toArray
def bools (f : Nat → Bool) (n : Nat) : Array Value := ((List.range n).map fun i => Value.bool (f i)).toArray
def upz {β : Type} (f : Nat → β) (i : Nat) (v : β) : Nat → β := fun j => if j = i then v else f j
theorem ints_size (f : Nat → Int) (n : Nat) : (ints f n).size = n := by simp [ints]
theorem bools_size (f : Nat → Bool) (n : Nat) : (bools f n).size = n := by simp [bools]
theorem ints_at (f : Nat → Int) (n i : Nat) (h : i < n) : (ints f n)[i]? = some (.int .i64 (f i)) := by simp [ints, h]
theorem bools_at (f : Nat → Bool) (n i : Nat) (h : i < n) : (bools f n)[i]? = some (.bool (f i)) := by simp [bools, h]
theorem ints_set (f : Nat → Int) (n i : Nat) (v : Int) : (ints f n).setIfInBounds i (.int .i64 v) = ints (upz f i v) n := by
  apply Array.ext_getElem?
  intro j
  rw [Array.getElem?_setIfInBounds]
  by_cases hj : j < n
  · rw [ints_at _ _ _ hj, ints_at _ _ _ hj, ints_size]
    by_cases h : i = j
    · subst h; simp [upz, hj]
    · have h' : ¬ j = i := fun e => h e.symm
      simp [upz, h, h']
  · rw [Array.getElem?_eq_none (by rw [ints_size]; omega), Array.getElem?_eq_none (by rw [ints_size]; omega)]
    split
    · rw [if_neg (by rw [ints_size]; omega)]
    · rfl
theorem bools_set (f : Nat → Bool) (n i : Nat) (v : Bool) : (bools f n).setIfInBounds i (.bool v) = bools (upz f i v) n := by
  apply Array.ext_getElem?
  intro j
  rw [Array.getElem?_setIfInBounds]
  by_cases hj : j < n
  · rw [bools_at _ _ _ hj, bools_at _ _ _ hj, bools_size]
    by_cases h : i = j
    · subst h; simp [upz, hj]
    · have h' : ¬ j = i := fun e => h e.symm
      simp [upz, h, h']
  · rw [Array.getElem?_eq_none (by rw [bools_size]; omega), Array.getElem?_eq_none (by rw [bools_size]; omega)]
    split
    · rw [if_neg (by rw [bools_size]; omega)]
    · rfl
theorem ints_ones (f : Nat → Int) (n : Nat) : oneCells (ints f n) = true := by
  simp [ints, oneCells, Value.oneCell']
end Go.Proofs.Ytppicbdaijiifaa
