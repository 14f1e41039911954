/- Orders, plain: there is always one who may come; the direct rule and the closed one give the same list. No condition. -/
import Derived.Test.YtkhdihieepfcpaaOrder6
namespace Go.Proofs.Ytkhdihieepfcpaa
open Go.RowKit

theorem countP_lt {α : Type} {p q : α → Bool} : ∀ {l : List α}, (∀ x ∈ l, p x = true → q x = true) → (∃ x ∈ l, q x = true ∧ p x = false) → l.countP p < l.countP q
  | [], _, h => by obtain ⟨x, hx, _⟩ := h; simp at hx
  | y :: l, h1, h2 => by
    have hle : l.countP p ≤ l.countP q := List.countP_mono_left (fun x hx => h1 x (by simp [hx]))
    simp only [List.countP_cons]
    by_cases hl : ∃ x ∈ l, q x = true ∧ p x = false
    · have ih := countP_lt (fun x hx => h1 x (by simp [hx])) hl
      have := h1 y (by simp)
      cases hp : p y
      · cases hq : q y <;> simp <;> omega
      · rw [hp] at this; rw [this rfl]; simp; omega
    · obtain ⟨x, hx, hq, hp⟩ := h2
      rcases List.mem_cons.1 hx with rfl | hx
      · rw [hq, hp]; simp; omega
      · exact absurd ⟨x, hx, hq, hp⟩ hl
section
variable {n : Nat} {f : Nat → Nat}
/-- what the plain laws stand on -/
structure Fine (n : Nat) (f : Nat → Nat) : Prop where
  n12 : n ≤ 12
  lt : ∀ i, i < n → f i < 2 ^ n
  acyc : isCyc n (closedF n f) = false
theorem Fine.irr (h : Fine n f) {i : Nat} (hi : i < n) : (closedF n f i).testBit i = false := by
  have := h.acyc
  rw [isCyc, List.any_eq_false] at this
  simpa using this i (by simpa using hi)
theorem Fine.dir (h : Fine n f) {i j : Nat} (hi : i < n) (hb : (f i).testBit j = true) : (closedF n f i).testBit j = true :=
  (closedF_rch h.lt hi).2 (.one hb)
theorem Fine.trans (h : Fine n f) {i j k : Nat} (hi : i < n) (hj : j < n) (h1 : (closedF n f i).testBit j = true) (h2 : (closedF n f j).testBit k = true) : (closedF n f i).testBit k = true :=
  (closedF_rch h.lt hi).2 (((closedF_rch h.lt hi).1 h1).trans ((closedF_rch h.lt hj).1 h2))
theorem mayC_iff (c : Nat → Nat) (out : List Nat) (i : Nat) : mayC n c out i = true ↔ i ∉ out ∧ ∀ j, j < n → (c j).testBit i = true → j ∈ out := by
  simp only [mayC, Bool.and_eq_true, Bool.not_eq_true', List.all_eq_true, List.mem_range, Bool.or_eq_true]
  constructor
  · rintro ⟨h1, h2⟩
    refine ⟨by simpa using h1, fun j hj hb => ?_⟩
    rcases h2 j hj with h | h
    · rw [hb] at h; cases h
    · simpa using h
  · rintro ⟨h1, h2⟩
    refine ⟨by simpa using h1, fun j hj => ?_⟩
    cases hb : (c j).testBit i
    · exact .inl rfl
    · exact .inr (by simpa using h2 j hj hb)
theorem Fine.ripeC (h : Fine n f) : Ripe n (closedF n f) := by
  intro out hnd hlt hlen
  have hex : ∃ i, i < n ∧ i ∉ out := by
    refine Decidable.byContradiction fun hno => ?_
    have hsub : List.range n ⊆ out := fun i hi => by
      refine Decidable.byContradiction fun hni => hno ⟨i, by simpa using hi, hni⟩
    have := (List.nodup_range (n := n)).length_le_of_subset hsub
    simp at this; omega
  have key : ∀ k i, i < n → i ∉ out → (List.range n).countP (fun j => (closedF n f j).testBit i) = k → ∃ i, i < n ∧ mayC n (closedF n f) out i = true := by
    intro k
    induction k using Nat.strongRecOn with
    | _ k ih =>
      intro i hi hio hk
      by_cases hall : ∀ j, j < n → (closedF n f j).testBit i = true → j ∈ out
      · exact ⟨i, hi, (mayC_iff _ _ _).2 ⟨hio, hall⟩⟩
      · have : ∃ j, j < n ∧ (closedF n f j).testBit i = true ∧ j ∉ out := by
          refine Decidable.byContradiction fun hno => hall fun j hj hb => ?_
          exact Decidable.byContradiction fun hjo => hno ⟨j, hj, hb, hjo⟩
        obtain ⟨j, hj, hb, hjo⟩ := this
        refine ih _ ?_ j hj hjo rfl
        rw [← hk]
        refine countP_lt (fun x hx hp => ?_) ⟨j, by simpa using hj, hb, h.irr hj⟩
        exact h.trans (by simpa using hx) hj hp hb
  obtain ⟨i, hi, hio⟩ := hex
  exact key _ i hi hio rfl
theorem Fine.ripe (h : Fine n f) : Ripe n f := by
  intro out hnd hlt hlen
  obtain ⟨i, hi, hm⟩ := h.ripeC out hnd hlt hlen
  rw [mayC_iff] at hm
  exact ⟨i, hi, (mayC_iff _ _ _).2 ⟨hm.1, fun j hj hb => hm.2 j hj (h.dir hj hb)⟩⟩
/-- who is ahead of one in the list is in it -/
def Down (n : Nat) (f : Nat → Nat) (out : List Nat) : Prop := ∀ i ∈ out, ∀ j, j < n → (f j).testBit i = true → j ∈ out
theorem Fine.bitlt (h : Fine n f) {i j : Nat} (hi : i < n) (hb : (f i).testBit j = true) : j < n := by
  rcases Nat.lt_or_ge j n with h' | h'
  · exact h'
  · rw [Nat.testBit_lt_two_pow (Nat.lt_of_lt_of_le (h.lt i hi) (Nat.pow_le_pow_right (by decide) h'))] at hb; cases hb
theorem Fine.mayEq (h : Fine n f) {out : List Nat} (hd : Down n f out) (i : Nat) : mayC n f out i = mayC n (closedF n f) out i := by
  rw [Bool.eq_iff_iff, mayC_iff, mayC_iff]
  refine ⟨fun ⟨h1, h2⟩ => ⟨h1, fun j hj hb => ?_⟩, fun ⟨h1, h2⟩ => ⟨h1, fun j hj hb => h2 j hj (h.dir hj hb)⟩⟩
  have hr := (closedF_rch h.lt hj).1 hb
  clear hb
  induction hr with
  | one hb => exact h2 _ hj hb
  | step hb _ ih => exact hd _ (ih ⟨h1, h2⟩ h1 h2 (h.bitlt hj hb)) _ hj hb
theorem Down.snoc {out : List Nat} {i : Nat} (hd : Down n f out) (hm : mayC n f out i = true) : Down n f (out ++ [i]) := by
  intro k hk j hj hb
  rcases List.mem_append.1 hk with hk | hk
  · exact List.mem_append.2 (.inl (hd k hk j hj hb))
  · simp only [List.mem_singleton] at hk
    subst hk
    exact List.mem_append.2 (.inl (((mayC_iff _ _ _).1 hm).2 j hj hb))
theorem Fine.growEq (h : Fine n f) : ∀ m out, Down n f out → grow n f m out = grow n (closedF n f) m out
  | 0, _, _ => rfl
  | m + 1, out, hd => by
    have e : mayC n f out = mayC n (closedF n f) out := funext (h.mayEq hd)
    simp only [grow]
    rw [← e]
    split
    · rename_i i hi
      exact h.growEq m _ (hd.snoc (by
        have := List.find?_some hi
        simpa using this))
    · rfl
theorem Down.nil : Down n f [] := fun i hi => by simp at hi
theorem Fine.leastEq (h : Fine n f) : leastL n f = leastL n (closedF n f) := h.growEq n [] Down.nil
end
end Go.Proofs.Ytkhdihieepfcpaa
