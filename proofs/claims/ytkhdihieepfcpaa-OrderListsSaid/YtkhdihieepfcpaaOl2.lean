/- OrderLists, plain: the longest antichain. No condition. -/
import Derived.Test.YtkhdihieepfcpaaOl1
namespace Go.Proofs.Ytkhdihieepfcpaa
/-! Antichains: the longest list of items that are apart, and of these the least -/
section
variable {n : Nat} {c : Nat → Nat}
def apP (c : Nat → Nat) (i j : Nat) : Prop := (c i).testBit j = false ∧ (c j).testBit i = false
/-- a list of items that are apart, in order -/
structure Vl (n : Nat) (c : Nat → Nat) (l : List Nat) : Prop where
  asc : l.Pairwise (· < ·)
  lt : ∀ x ∈ l, x < n
  ap : l.Pairwise (apP c)
def lexB : List Nat → List Nat → Bool
  | [], _ => true
  | _ :: _, [] => false
  | x :: xs, y :: ys => decide (x < y) || (decide (x = y) && lexB xs ys)
theorem lexB_refl : ∀ l, lexB l l = true
  | [] => rfl
  | x :: l => by simp [lexB, lexB_refl l]
theorem lexB_total : ∀ a b : List Nat, lexB a b = true ∨ lexB b a = true
  | [], _ => .inl rfl
  | _ :: _, [] => .inr rfl
  | x :: xs, y :: ys => by
    simp only [lexB, Bool.or_eq_true, decide_eq_true_eq, Bool.and_eq_true]
    rcases Nat.lt_trichotomy x y with h | h | h
    · exact .inl (.inl h)
    · rcases lexB_total xs ys with h1 | h1
      · exact .inl (.inr ⟨h, h1⟩)
      · exact .inr (.inr ⟨h.symm, h1⟩)
    · exact .inr (.inl h)
theorem lexB_anti : ∀ {a b : List Nat}, a.length = b.length → lexB a b = true → lexB b a = true → a = b
  | [], [], _, _, _ => rfl
  | [], _ :: _, h, _, _ => by simp at h
  | _ :: _, [], h, _, _ => by simp at h
  | x :: xs, y :: ys, hl, h1, h2 => by
    simp only [lexB, Bool.or_eq_true, decide_eq_true_eq, Bool.and_eq_true] at h1 h2
    have e : x = y := by omega
    subst e
    have := lexB_anti (a := xs) (b := ys) (by simpa using hl) (by rcases h1 with h | h; omega; exact h.2) (by rcases h2 with h | h; omega; exact h.2)
    rw [this]
theorem lexB_trans : ∀ {a b d : List Nat}, lexB a b = true → lexB b d = true → lexB a d = true
  | [], _, _, _, _ => rfl
  | _ :: _, [], _, h, _ => by simp [lexB] at h
  | x :: xs, y :: ys, [], _, h => by simp [lexB] at h
  | x :: xs, y :: ys, z :: zs, h1, h2 => by
    simp only [lexB, Bool.or_eq_true, decide_eq_true_eq, Bool.and_eq_true] at h1 h2 ⊢
    rcases h1 with h1 | ⟨e1, h1⟩ <;> rcases h2 with h2 | ⟨e2, h2⟩
    · exact .inl (by omega)
    · exact .inl (by omega)
    · exact .inl (by omega)
    · exact .inr ⟨by omega, lexB_trans h1 h2⟩
theorem lexB_app : ∀ (p : List Nat) {a b : List Nat}, lexB (p ++ a) (p ++ b) = lexB a b
  | [], _, _ => rfl
  | x :: p, a, b => by simp [lexB, lexB_app p]
/-- at least as good: longer, or as long and not behind -/
def better (a b : List Nat) : Prop := b.length < a.length ∨ a.length = b.length ∧ lexB a b = true
theorem better_refl (a : List Nat) : better a a := .inr ⟨rfl, lexB_refl a⟩
theorem better_trans {a b d : List Nat} (h1 : better a b) (h2 : better b d) : better a d := by
  rcases h1 with h1 | ⟨e1, h1⟩ <;> rcases h2 with h2 | ⟨e2, h2⟩
  · exact .inl (by omega)
  · exact .inl (by omega)
  · exact .inl (by omega)
  · exact .inr ⟨by omega, lexB_trans h1 h2⟩
theorem better_anti {a b : List Nat} (h1 : better a b) (h2 : better b a) : a = b := by
  rcases h1 with h1 | ⟨e1, h1⟩ <;> rcases h2 with h2 | ⟨e2, h2⟩
  · omega
  · omega
  · omega
  · exact lexB_anti e1 h1 h2
/-! the document's search -/
def fitsB' (c : Nat → Nat) (l : List Nat) (k : Nat) : Bool := l.all fun i => !(c i).testBit k && !(c k).testBit i
def LA (c : Nat → Nat) : Nat → Nat → List Nat → List Nat
  | 0, _, l => l
  | f + 1, k, l =>
    if fitsB' c l k = true then (if (LA c f (k + 1) (l ++ [k])).length < (LA c f (k + 1) l).length then LA c f (k + 1) l else LA c f (k + 1) (l ++ [k])) else LA c f (k + 1) l
theorem Vl.snoc {l : List Nat} {k : Nat} (h : Vl n c l) (hk : k < n) (hb : ∀ x ∈ l, x < k) (hf : fitsB' c l k = true) : Vl n c (l ++ [k]) where
  asc := by
    rw [List.pairwise_append]
    exact ⟨h.asc, by simp, fun x hx y hy => by simp at hy; subst hy; exact hb x hx⟩
  lt x hx := by
    rcases List.mem_append.1 hx with h' | h'
    · exact h.lt x h'
    · simp at h'; omega
  ap := by
    rw [List.pairwise_append]
    refine ⟨h.ap, by simp, fun x hx y hy => ?_⟩
    simp at hy; subst hy
    have := List.all_eq_true.1 hf x hx
    simpa [apP] using this
theorem LA_best : ∀ f k l, k + f = n → Vl n c l → (∀ x ∈ l, x < k) → Vl n c (LA c f k l) ∧ (∃ t, LA c f k l = l ++ t ∧ ∀ x ∈ t, k ≤ x) ∧ ∀ t, Vl n c (l ++ t) → (∀ x ∈ t, k ≤ x) → better (LA c f k l) (l ++ t)
  | 0, k, l, hk, hv, hb => by
    refine ⟨hv, ⟨[], by simp [LA], by simp⟩, fun t ht htk => ?_⟩
    cases t with
    | nil => simp [LA]; exact better_refl l
    | cons x t =>
      have h1 := ht.lt x (by simp)
      have h2 := htk x (by simp)
      omega
  | f + 1, k, l, hk, hv, hb => by
    obtain ⟨w1, ⟨tw, w2, w3⟩, w4⟩ := LA_best f (k + 1) l (by omega) hv (fun x hx => by have := hb x hx; omega)
    have hwo : ∀ t, Vl n c (l ++ t) → (∀ x ∈ t, k + 1 ≤ x) → better (LA c f (k + 1) l) (l ++ t) := w4
    simp only [LA]
    by_cases hf : fitsB' c l k = true
    · rw [if_pos hf]
      have hvs := hv.snoc (by omega) hb hf
      obtain ⟨v1, ⟨tv, v2, v3⟩, v4⟩ := LA_best f (k + 1) (l ++ [k]) (by omega) hvs (fun x hx => by
        rcases List.mem_append.1 hx with h' | h'
        · have := hb x h'; omega
        · simp at h'; omega)
      -- a list of the other kind
      have hcase : ∀ t, Vl n c (l ++ t) → (∀ x ∈ t, k ≤ x) → (∃ t', l ++ t = l ++ [k] ++ t' ∧ ∀ x ∈ t', k + 1 ≤ x) ∨ ∀ x ∈ t, k + 1 ≤ x := fun t ht htk => by
        cases t with
        | nil => right; simp
        | cons y t =>
          have hasc := (List.pairwise_append.1 ht.asc).2.1
          have h1 := (List.pairwise_cons.1 hasc).1
          have hy := htk y (by simp)
          by_cases e : y = k
          · left
            subst e
            exact ⟨t, by simp, fun x hx => by have := h1 x hx; omega⟩
          · right
            intro x hx
            rcases List.mem_cons.1 hx with rfl | hx
            · omega
            · have := h1 x hx; omega
      split
      · rename_i hlt
        refine ⟨w1, ⟨tw, w2, fun x hx => by have := w3 x hx; omega⟩, fun t ht htk => ?_⟩
        rcases hcase t ht htk with ⟨t', e, ht'⟩ | h'
        · rw [e] at ht ⊢
          have := v4 t' ht ht'
          rcases this with h | ⟨h, _⟩
          · exact .inl (by omega)
          · exact .inl (by omega)
        · exact w4 t ht h'
      · rename_i hge
        refine ⟨v1, ⟨k :: tv, by rw [v2]; simp, fun x hx => by
          rcases List.mem_cons.1 hx with rfl | hx
          · omega
          · have := v3 x hx; omega⟩, fun t ht htk => ?_⟩
        rcases hcase t ht htk with ⟨t', e, ht'⟩ | h'
        · rw [e] at ht ⊢
          exact v4 t' ht ht'
        · have := w4 t ht h'
          have hll : (l ++ t).length ≤ (LA c f (k + 1) l).length := by
            rcases this with h | ⟨h, _⟩ <;> omega
          by_cases hlt : (l ++ t).length < (LA c f (k + 1) (l ++ [k])).length
          · exact .inl hlt
          · refine .inr ⟨by omega, ?_⟩
            have hlen : (l ++ t).length = (LA c f (k + 1) (l ++ [k])).length := by omega
            rw [v2] at hlen ⊢
            rw [List.append_assoc, lexB_app]
            cases t with
            | nil => simp at hlen
            | cons y t =>
              have := h' y (by simp)
              have hky : k < y := by omega
              simp [lexB, hky]
    · rw [if_neg hf]
      refine ⟨w1, ⟨tw, w2, fun x hx => by have := w3 x hx; omega⟩, fun t ht htk => ?_⟩
      cases t with
      | nil => exact w4 [] ht (by simp)
      | cons y t =>
        have hasc := (List.pairwise_append.1 ht.asc).2.1
        have h1 := (List.pairwise_cons.1 hasc).1
        have hy := htk y (by simp)
        have hne : y ≠ k := fun e => by
          subst e
          apply hf
          unfold fitsB'
          rw [List.all_eq_true]
          intro x hx
          have := (List.pairwise_append.1 ht.ap).2.2 x hx y (by simp)
          simp [this.1, this.2]
        refine w4 (y :: t) ht fun x hx => ?_
        rcases List.mem_cons.1 hx with rfl | hx
        · omega
        · have := h1 x hx; omega
theorem Vl.nil : Vl n c [] := ⟨.nil, by simp, .nil⟩
theorem LA_all : Vl n c (LA c n 0 []) ∧ ∀ t, Vl n c t → better (LA c n 0 []) t := by
  obtain ⟨h1, _, h3⟩ := LA_best (n := n) (c := c) n 0 [] (by omega) Vl.nil (by simp)
  exact ⟨h1, fun t ht => by simpa using h3 t (by simpa using ht) (by simp)⟩
/-! the code's search: over all sets -/
def itemsL (s : Nat) : List Nat := (List.range 12).filter fun i => s.testBit i
def apartB (c : Nat → Nat) (s : Nat) : Bool := (itemsL s).all fun i => (c i &&& s) == 0
def wStepA (c : Nat → Nat) (b : List Nat) (s : Nat) : List Nat :=
  if (itemsL s).length < b.length ∨ apartB c s = false then b else if b.length < (itemsL s).length ∨ lexB b (itemsL s) = false then itemsL s else b
def wideTo (c : Nat → Nat) (m : Nat) : List Nat := (List.range m).foldl (wStepA c) []
theorem wideTo_succ (m : Nat) : wideTo c (m + 1) = wStepA c (wideTo c m) m := by simp [wideTo, List.range_succ]
theorem items_asc (s : Nat) : (itemsL s).Pairwise (· < ·) := (List.pairwise_lt_range (n := 12)).sublist List.filter_sublist
theorem items_mem (s i : Nat) : i ∈ itemsL s ↔ i < 12 ∧ s.testBit i = true := by simp [itemsL]
theorem apartB_iff (s : Nat) (hs : s < 4096) : apartB c s = true ↔ ∀ i ∈ itemsL s, ∀ j ∈ itemsL s, (c i).testBit j = false := by
  unfold apartB
  rw [List.all_eq_true]
  constructor
  · intro h i hi j hj
    have h1 := h i hi
    have h2 : (c i &&& s).testBit j = false := by
      have : c i &&& s = 0 := by simpa using h1
      rw [this]; simp
    rw [Nat.testBit_and, ((items_mem s j).1 hj).2] at h2
    simpa using h2
  · intro h i hi
    rw [beq_iff_eq]
    apply Nat.eq_of_testBit_eq
    intro j
    rw [Nat.testBit_and, Nat.zero_testBit]
    cases hj : s.testBit j
    · simp
    · have hj12 : j < 12 := by
        refine Nat.lt_of_not_le fun hle => ?_
        rw [Nat.testBit_lt_two_pow (Nat.lt_of_lt_of_le hs (by rw [show 4096 = 2 ^ 12 by rfl]; exact Nat.pow_le_pow_right (by decide) hle))] at hj; cases hj
      rw [h i hi j ((items_mem s j).2 ⟨hj12, hj⟩)]; rfl
theorem vl_items (hn : n ≤ 12) (h0 : ∀ i, i < n → (c i).testBit i = false) {s : Nat} (hs : s < 2 ^ n) : apartB c s = true ↔ Vl n c (itemsL s) := by
  have hs4 : s < 4096 := Nat.lt_of_lt_of_le hs (by rw [show 4096 = 2 ^ 12 by rfl]; exact Nat.pow_le_pow_right (by decide) hn)
  rw [apartB_iff s hs4]
  have hlt : ∀ x ∈ itemsL s, x < n := fun x hx => by
    refine Nat.lt_of_not_le fun hle => ?_
    have := ((items_mem s x).1 hx).2
    rw [Nat.testBit_lt_two_pow (Nat.lt_of_lt_of_le hs (Nat.pow_le_pow_right (by decide) hle))] at this; cases this
  constructor
  · intro h
    refine ⟨items_asc s, hlt, ?_⟩
    rw [List.pairwise_iff_getElem]
    intro i j hi hj hij
    exact ⟨h _ (List.getElem_mem hi) _ (List.getElem_mem hj), h _ (List.getElem_mem hj) _ (List.getElem_mem hi)⟩
  · intro h i hi j hj
    by_cases e : i = j
    · subst e; exact h0 i (hlt i hi)
    · obtain ⟨p, hp, rfl⟩ := List.getElem_of_mem hi
      obtain ⟨q, hq, rfl⟩ := List.getElem_of_mem hj
      have hpq : p ≠ q := fun h => e (by subst h; rfl)
      rcases Nat.lt_or_gt_of_ne hpq with h' | h'
      · exact ((List.pairwise_iff_getElem.1 h.ap) p q hp hq h').1
      · exact ((List.pairwise_iff_getElem.1 h.ap) q p hq hp h').2
theorem wide_best (hn : n ≤ 12) (h0 : ∀ i, i < n → (c i).testBit i = false) : ∀ m, m ≤ 2 ^ n → Vl n c (wideTo c m) ∧ ∀ s, s < m → apartB c s = true → better (wideTo c m) (itemsL s)
  | 0, _ => ⟨Vl.nil, fun s hs => by omega⟩
  | m + 1, hm => by
    obtain ⟨i1, i2⟩ := wide_best hn h0 m (by omega)
    rw [wideTo_succ]
    have hself : Vl n c (wStepA c (wideTo c m) m) ∧ better (wStepA c (wideTo c m) m) (wideTo c m) ∧ (apartB c m = true → better (wStepA c (wideTo c m) m) (itemsL m)) := by
      unfold wStepA
      split
      · rename_i hc
        refine ⟨i1, better_refl _, fun ha => ?_⟩
        rcases hc with h | h
        · exact .inl h
        · rw [ha] at h; cases h
      · rename_i hc
        have ha : apartB c m = true := by
          cases h : apartB c m
          · exact absurd (.inr h) hc
          · rfl
        have hle : (wideTo c m).length ≤ (itemsL m).length := Nat.le_of_not_lt fun h => hc (.inl h)
        split
        · rename_i hd
          refine ⟨(vl_items hn h0 (by omega)).1 ha, ?_, fun _ => better_refl _⟩
          by_cases hl : (wideTo c m).length < (itemsL m).length
          · exact .inl hl
          · rcases hd with h | h
            · exact absurd h hl
            · refine .inr ⟨by omega, ?_⟩
              rcases lexB_total (wideTo c m) (itemsL m) with h' | h'
              · rw [h] at h'; cases h'
              · exact h'
        · rename_i hd
          refine ⟨i1, better_refl _, fun _ => ?_⟩
          have h1 : ¬ (wideTo c m).length < (itemsL m).length := fun h => hd (.inl h)
          have h2 : lexB (wideTo c m) (itemsL m) = true := by
            cases h : lexB (wideTo c m) (itemsL m)
            · exact absurd (.inr h) hd
            · rfl
          exact .inr ⟨by omega, h2⟩
    refine ⟨hself.1, fun s hs ha => ?_⟩
    by_cases e : s = m
    · subst e; exact hself.2.2 ha
    · exact better_trans hself.2.1 (i2 s (by omega) ha)
theorem asc_eq_of_mem : ∀ {a b : List Nat}, a.Pairwise (· < ·) → b.Pairwise (· < ·) → (∀ x, x ∈ a ↔ x ∈ b) → a = b
  | [], [], _, _, _ => rfl
  | [], y :: b, _, _, h => absurd ((h y).2 (by simp)) (by simp)
  | x :: a, [], _, _, h => absurd ((h x).1 (by simp)) (by simp)
  | x :: a, y :: b, ha, hb, h => by
    obtain ⟨a1, a2⟩ := List.pairwise_cons.1 ha
    obtain ⟨b1, b2⟩ := List.pairwise_cons.1 hb
    have e : x = y := by
      have hx := (h x).1 (by simp)
      have hy := (h y).2 (by simp)
      rcases List.mem_cons.1 hx with e | hx
      · exact e
      · rcases List.mem_cons.1 hy with e | hy
        · exact e.symm
        · have := b1 x hx; have := a1 y hy; omega
    subst e
    congr 1
    refine asc_eq_of_mem a2 b2 fun z => ?_
    have hz := h z
    simp only [List.mem_cons] at hz
    constructor
    · intro hm
      have := a1 z hm
      rcases hz.1 (.inr hm) with e | h'
      · omega
      · exact h'
    · intro hm
      have := b1 z hm
      rcases hz.2 (.inr hm) with e | h'
      · omega
      · exact h'
theorem items_mask (hn : n ≤ 12) {l : List Nat} (h : Vl n c l) : itemsL (maskOf l) = l := by
  refine asc_eq_of_mem (items_asc _) h.asc fun x => ?_
  rw [items_mem, maskOf_bit]
  constructor
  · rintro ⟨_, h'⟩; simpa using h'
  · intro hx
    have := h.lt x hx
    exact ⟨by omega, by simpa using hx⟩
theorem wide_eq (hn : n ≤ 12) (h0 : ∀ i, i < n → (c i).testBit i = false) : wideTo c (2 ^ n) = LA c n 0 [] := by
  obtain ⟨h1, h2⟩ := wide_best hn h0 (2 ^ n) (Nat.le_refl _)
  obtain ⟨h3, h4⟩ := LA_all (n := n) (c := c)
  refine better_anti ?_ (h4 _ h1)
  have hm := maskOf_lt _ n h3.lt
  have := h2 (maskOf (LA c n 0 [])) hm ((vl_items hn h0 hm).2 (by rw [items_mask hn h3]; exact h3))
  rwa [items_mask hn h3] at this
end
end Go.Proofs.Ytkhdihieepfcpaa
