/- Lemmas for the walks (Ol2, Ol3, Spans, Tn1, EqI). No condition. -/
import Derived.Test.YtjdckepbihcgfaaGreatDoorG18
import Derived.Test.YtjdckepbihcgfaaGreatDoorRows
import Derived.Test.YtjdckepbihcgfaaGreatDoorG14
import Derived.Test.YtjdckepbihcgfaaGreatDoorG01
import Derived.Deep.QuietTactic
import Derived.BigQuiet
import Derived.RegionTactic
import Derived.BigRegion
import Derived.StillTailTactics
import Derived.Deep.RegionLaw
import Derived.Laws.ResultCell
import Derived.Laws.BitsAllLaws
set_option linter.unusedSimpArgs false
set_option linter.unusedVariables false
set_option linter.unusedSectionVars false
set_option linter.unnecessarySimpa false
namespace Go.Proofs.YtjdckepbihcgfaaGreatDoor
/-! Antichains: the longest list of items that are apart, and of these the least -/
section
variable {n : Nat} {c : Nat → Nat}
def apP (c : Nat → Nat) (i j : Nat) : Prop := (c i).testBit j = false ∧ (c j).testBit i = false
/-- a list of items that are apart, in order -/
structure Vl (n : Nat) (c : Nat → Nat) (l : List Nat) : Prop where
  asc : l.Pairwise (· < ·)
  lt : ∀ x ∈ l, x < n
  ap : l.Pairwise (apP c)
def lexB : List Nat → List Nat → Bool
  | [], _ => true
  | _ :: _, [] => false
  | x :: xs, y :: ys => decide (x < y) || (decide (x = y) && lexB xs ys)
theorem lexB_refl : ∀ l, lexB l l = true
  | [] => rfl
  | x :: l => by simp [lexB, lexB_refl l]
theorem lexB_total : ∀ a b : List Nat, lexB a b = true ∨ lexB b a = true
  | [], _ => .inl rfl
  | _ :: _, [] => .inr rfl
  | x :: xs, y :: ys => by
    simp only [lexB, Bool.or_eq_true, decide_eq_true_eq, Bool.and_eq_true]
    rcases Nat.lt_trichotomy x y with h | h | h
    · exact .inl (.inl h)
    · rcases lexB_total xs ys with h1 | h1
      · exact .inl (.inr ⟨h, h1⟩)
      · exact .inr (.inr ⟨h.symm, h1⟩)
    · exact .inr (.inl h)
theorem lexB_anti : ∀ {a b : List Nat}, a.length = b.length → lexB a b = true → lexB b a = true → a = b
  | [], [], _, _, _ => rfl
  | [], _ :: _, h, _, _ => by simp at h
  | _ :: _, [], h, _, _ => by simp at h
  | x :: xs, y :: ys, hl, h1, h2 => by
    simp only [lexB, Bool.or_eq_true, decide_eq_true_eq, Bool.and_eq_true] at h1 h2
    have e : x = y := by omega
    subst e
    have := lexB_anti (a := xs) (b := ys) (by simpa using hl) (by rcases h1 with h | h; omega; exact h.2) (by rcases h2 with h | h; omega; exact h.2)
    rw [this]
theorem lexB_trans : ∀ {a b d : List Nat}, lexB a b = true → lexB b d = true → lexB a d = true
  | [], _, _, _, _ => rfl
  | _ :: _, [], _, h, _ => by simp [lexB] at h
  | x :: xs, y :: ys, [], _, h => by simp [lexB] at h
  | x :: xs, y :: ys, z :: zs, h1, h2 => by
    simp only [lexB, Bool.or_eq_true, decide_eq_true_eq, Bool.and_eq_true] at h1 h2 ⊢
    rcases h1 with h1 | ⟨e1, h1⟩ <;> rcases h2 with h2 | ⟨e2, h2⟩
    · exact .inl (by omega)
    · exact .inl (by omega)
    · exact .inl (by omega)
    · exact .inr ⟨by omega, lexB_trans h1 h2⟩
theorem lexB_app : ∀ (p : List Nat) {a b : List Nat}, lexB (p ++ a) (p ++ b) = lexB a b
  | [], _, _ => rfl
  | x :: p, a, b => by simp [lexB, lexB_app p]
/-- at least as good: longer, or as long and not behind -/
def better (a b : List Nat) : Prop := b.length < a.length ∨ a.length = b.length ∧ lexB a b = true
theorem better_refl (a : List Nat) : better a a := .inr ⟨rfl, lexB_refl a⟩
theorem better_trans {a b d : List Nat} (h1 : better a b) (h2 : better b d) : better a d := by
  rcases h1 with h1 | ⟨e1, h1⟩ <;> rcases h2 with h2 | ⟨e2, h2⟩
  · exact .inl (by omega)
  · exact .inl (by omega)
  · exact .inl (by omega)
  · exact .inr ⟨by omega, lexB_trans h1 h2⟩
theorem better_anti {a b : List Nat} (h1 : better a b) (h2 : better b a) : a = b := by
  rcases h1 with h1 | ⟨e1, h1⟩ <;> rcases h2 with h2 | ⟨e2, h2⟩
  · omega
  · omega
  · omega
  · exact lexB_anti e1 h1 h2
/-! the document's search -/
def fitsB' (c : Nat → Nat) (l : List Nat) (k : Nat) : Bool := l.all fun i => !(c i).testBit k && !(c k).testBit i
def LA (c : Nat → Nat) : Nat → Nat → List Nat → List Nat
  | 0, _, l => l
  | f + 1, k, l =>
    if fitsB' c l k = true then (if (LA c f (k + 1) (l ++ [k])).length < (LA c f (k + 1) l).length then LA c f (k + 1) l else LA c f (k + 1) (l ++ [k])) else LA c f (k + 1) l
theorem Vl.snoc {l : List Nat} {k : Nat} (h : Vl n c l) (hk : k < n) (hb : ∀ x ∈ l, x < k) (hf : fitsB' c l k = true) : Vl n c (l ++ [k]) where
  asc := by
    rw [List.pairwise_append]
    exact ⟨h.asc, by simp, fun x hx y hy => by simp at hy; subst hy; exact hb x hx⟩
  lt x hx := by
    rcases List.mem_append.1 hx with h' | h'
    · exact h.lt x h'
    · simp at h'; omega
  ap := by
    rw [List.pairwise_append]
    refine ⟨h.ap, by simp, fun x hx y hy => ?_⟩
    simp at hy; subst hy
    have := List.all_eq_true.1 hf x hx
    simpa [apP] using this
theorem LA_best : ∀ f k l, k + f = n → Vl n c l → (∀ x ∈ l, x < k) → Vl n c (LA c f k l) ∧ (∃ t, LA c f k l = l ++ t ∧ ∀ x ∈ t, k ≤ x) ∧ ∀ t, Vl n c (l ++ t) → (∀ x ∈ t, k ≤ x) → better (LA c f k l) (l ++ t)
  | 0, k, l, hk, hv, hb => by
    refine ⟨hv, ⟨[], by simp [LA], by simp⟩, fun t ht htk => ?_⟩
    cases t with
    | nil => simp [LA]; exact better_refl l
    | cons x t =>
      have h1 := ht.lt x (by simp)
      have h2 := htk x (by simp)
      omega
  | f + 1, k, l, hk, hv, hb => by
    obtain ⟨w1, ⟨tw, w2, w3⟩, w4⟩ := LA_best f (k + 1) l (by omega) hv (fun x hx => by have := hb x hx; omega)
    have hwo : ∀ t, Vl n c (l ++ t) → (∀ x ∈ t, k + 1 ≤ x) → better (LA c f (k + 1) l) (l ++ t) := w4
    simp only [LA]
    by_cases hf : fitsB' c l k = true
    · rw [if_pos hf]
      have hvs := hv.snoc (by omega) hb hf
      obtain ⟨v1, ⟨tv, v2, v3⟩, v4⟩ := LA_best f (k + 1) (l ++ [k]) (by omega) hvs (fun x hx => by
        rcases List.mem_append.1 hx with h' | h'
        · have := hb x h'; omega
        · simp at h'; omega)
      -- a list of the other kind
      have hcase : ∀ t, Vl n c (l ++ t) → (∀ x ∈ t, k ≤ x) → (∃ t', l ++ t = l ++ [k] ++ t' ∧ ∀ x ∈ t', k + 1 ≤ x) ∨ ∀ x ∈ t, k + 1 ≤ x := fun t ht htk => by
        cases t with
        | nil => right; simp
        | cons y t =>
          have hasc := (List.pairwise_append.1 ht.asc).2.1
          have h1 := (List.pairwise_cons.1 hasc).1
          have hy := htk y (by simp)
          by_cases e : y = k
          · left
            subst e
            exact ⟨t, by simp, fun x hx => by have := h1 x hx; omega⟩
          · right
            intro x hx
            rcases List.mem_cons.1 hx with rfl | hx
            · omega
            · have := h1 x hx; omega
      split
      · rename_i hlt
        refine ⟨w1, ⟨tw, w2, fun x hx => by have := w3 x hx; omega⟩, fun t ht htk => ?_⟩
        rcases hcase t ht htk with ⟨t', e, ht'⟩ | h'
        · rw [e] at ht ⊢
          have := v4 t' ht ht'
          rcases this with h | ⟨h, _⟩
          · exact .inl (by omega)
          · exact .inl (by omega)
        · exact w4 t ht h'
      · rename_i hge
        refine ⟨v1, ⟨k :: tv, by rw [v2]; simp, fun x hx => by
          rcases List.mem_cons.1 hx with rfl | hx
          · omega
          · have := v3 x hx; omega⟩, fun t ht htk => ?_⟩
        rcases hcase t ht htk with ⟨t', e, ht'⟩ | h'
        · rw [e] at ht ⊢
          exact v4 t' ht ht'
        · have := w4 t ht h'
          have hll : (l ++ t).length ≤ (LA c f (k + 1) l).length := by
            rcases this with h | ⟨h, _⟩ <;> omega
          by_cases hlt : (l ++ t).length < (LA c f (k + 1) (l ++ [k])).length
          · exact .inl hlt
          · refine .inr ⟨by omega, ?_⟩
            have hlen : (l ++ t).length = (LA c f (k + 1) (l ++ [k])).length := by omega
            rw [v2] at hlen ⊢
            rw [List.append_assoc, lexB_app]
            cases t with
            | nil => simp at hlen
            | cons y t =>
              have := h' y (by simp)
              have hky : k < y := by omega
              simp [lexB, hky]
    · rw [if_neg hf]
      refine ⟨w1, ⟨tw, w2, fun x hx => by have := w3 x hx; omega⟩, fun t ht htk => ?_⟩
      cases t with
      | nil => exact w4 [] ht (by simp)
      | cons y t =>
        have hasc := (List.pairwise_append.1 ht.asc).2.1
        have h1 := (List.pairwise_cons.1 hasc).1
        have hy := htk y (by simp)
        have hne : y ≠ k := fun e => by
          subst e
          apply hf
          unfold fitsB'
          rw [List.all_eq_true]
          intro x hx
          have := (List.pairwise_append.1 ht.ap).2.2 x hx y (by simp)
          simp [this.1, this.2]
        refine w4 (y :: t) ht fun x hx => ?_
        rcases List.mem_cons.1 hx with rfl | hx
        · omega
        · have := h1 x hx; omega
theorem Vl.nil : Vl n c [] := ⟨.nil, by simp, .nil⟩
theorem LA_all : Vl n c (LA c n 0 []) ∧ ∀ t, Vl n c t → better (LA c n 0 []) t := by
  obtain ⟨h1, _, h3⟩ := LA_best (n := n) (c := c) n 0 [] (by omega) Vl.nil (by simp)
  exact ⟨h1, fun t ht => by simpa using h3 t (by simpa using ht) (by simp)⟩
/-! the code's search: over all sets -/
def itemsL (s : Nat) : List Nat := (List.range 12).filter fun i => s.testBit i
def apartB (c : Nat → Nat) (s : Nat) : Bool := (itemsL s).all fun i => (c i &&& s) == 0
def wStepA (c : Nat → Nat) (b : List Nat) (s : Nat) : List Nat :=
  if (itemsL s).length < b.length ∨ apartB c s = false then b else if b.length < (itemsL s).length ∨ lexB b (itemsL s) = false then itemsL s else b
def wideTo (c : Nat → Nat) (m : Nat) : List Nat := (List.range m).foldl (wStepA c) []
theorem wideTo_succ (m : Nat) : wideTo c (m + 1) = wStepA c (wideTo c m) m := by simp [wideTo, List.range_succ]
theorem items_asc (s : Nat) : (itemsL s).Pairwise (· < ·) := (List.pairwise_lt_range (n := 12)).sublist List.filter_sublist
theorem items_mem (s i : Nat) : i ∈ itemsL s ↔ i < 12 ∧ s.testBit i = true := by simp [itemsL]
theorem apartB_iff (s : Nat) (hs : s < 4096) : apartB c s = true ↔ ∀ i ∈ itemsL s, ∀ j ∈ itemsL s, (c i).testBit j = false := by
  unfold apartB
  rw [List.all_eq_true]
  constructor
  · intro h i hi j hj
    have h1 := h i hi
    have h2 : (c i &&& s).testBit j = false := by
      have : c i &&& s = 0 := by simpa using h1
      rw [this]; simp
    rw [Nat.testBit_and, ((items_mem s j).1 hj).2] at h2
    simpa using h2
  · intro h i hi
    rw [beq_iff_eq]
    apply Nat.eq_of_testBit_eq
    intro j
    rw [Nat.testBit_and, Nat.zero_testBit]
    cases hj : s.testBit j
    · simp
    · have hj12 : j < 12 := by
        refine Nat.lt_of_not_le fun hle => ?_
        rw [Nat.testBit_lt_two_pow (Nat.lt_of_lt_of_le hs (by rw [show 4096 = 2 ^ 12 by rfl]; exact Nat.pow_le_pow_right (by decide) hle))] at hj; cases hj
      rw [h i hi j ((items_mem s j).2 ⟨hj12, hj⟩)]; rfl
theorem vl_items (hn : n ≤ 12) (h0 : ∀ i, i < n → (c i).testBit i = false) {s : Nat} (hs : s < 2 ^ n) : apartB c s = true ↔ Vl n c (itemsL s) := by
  have hs4 : s < 4096 := Nat.lt_of_lt_of_le hs (by rw [show 4096 = 2 ^ 12 by rfl]; exact Nat.pow_le_pow_right (by decide) hn)
  rw [apartB_iff s hs4]
  have hlt : ∀ x ∈ itemsL s, x < n := fun x hx => by
    refine Nat.lt_of_not_le fun hle => ?_
    have := ((items_mem s x).1 hx).2
    rw [Nat.testBit_lt_two_pow (Nat.lt_of_lt_of_le hs (Nat.pow_le_pow_right (by decide) hle))] at this; cases this
  constructor
  · intro h
    refine ⟨items_asc s, hlt, ?_⟩
    rw [List.pairwise_iff_getElem]
    intro i j hi hj hij
    exact ⟨h _ (List.getElem_mem hi) _ (List.getElem_mem hj), h _ (List.getElem_mem hj) _ (List.getElem_mem hi)⟩
  · intro h i hi j hj
    by_cases e : i = j
    · subst e; exact h0 i (hlt i hi)
    · obtain ⟨p, hp, rfl⟩ := List.getElem_of_mem hi
      obtain ⟨q, hq, rfl⟩ := List.getElem_of_mem hj
      have hpq : p ≠ q := fun h => e (by subst h; rfl)
      rcases Nat.lt_or_gt_of_ne hpq with h' | h'
      · exact ((List.pairwise_iff_getElem.1 h.ap) p q hp hq h').1
      · exact ((List.pairwise_iff_getElem.1 h.ap) q p hq hp h').2
theorem wide_best (hn : n ≤ 12) (h0 : ∀ i, i < n → (c i).testBit i = false) : ∀ m, m ≤ 2 ^ n → Vl n c (wideTo c m) ∧ ∀ s, s < m → apartB c s = true → better (wideTo c m) (itemsL s)
  | 0, _ => ⟨Vl.nil, fun s hs => by omega⟩
  | m + 1, hm => by
    obtain ⟨i1, i2⟩ := wide_best hn h0 m (by omega)
    rw [wideTo_succ]
    have hself : Vl n c (wStepA c (wideTo c m) m) ∧ better (wStepA c (wideTo c m) m) (wideTo c m) ∧ (apartB c m = true → better (wStepA c (wideTo c m) m) (itemsL m)) := by
      unfold wStepA
      split
      · rename_i hc
        refine ⟨i1, better_refl _, fun ha => ?_⟩
        rcases hc with h | h
        · exact .inl h
        · rw [ha] at h; cases h
      · rename_i hc
        have ha : apartB c m = true := by
          cases h : apartB c m
          · exact absurd (.inr h) hc
          · rfl
        have hle : (wideTo c m).length ≤ (itemsL m).length := Nat.le_of_not_lt fun h => hc (.inl h)
        split
        · rename_i hd
          refine ⟨(vl_items hn h0 (by omega)).1 ha, ?_, fun _ => better_refl _⟩
          by_cases hl : (wideTo c m).length < (itemsL m).length
          · exact .inl hl
          · rcases hd with h | h
            · exact absurd h hl
            · refine .inr ⟨by omega, ?_⟩
              rcases lexB_total (wideTo c m) (itemsL m) with h' | h'
              · rw [h] at h'; cases h'
              · exact h'
        · rename_i hd
          refine ⟨i1, better_refl _, fun _ => ?_⟩
          have h1 : ¬ (wideTo c m).length < (itemsL m).length := fun h => hd (.inl h)
          have h2 : lexB (wideTo c m) (itemsL m) = true := by
            cases h : lexB (wideTo c m) (itemsL m)
            · exact absurd (.inr h) hd
            · rfl
          exact .inr ⟨by omega, h2⟩
    refine ⟨hself.1, fun s hs ha => ?_⟩
    by_cases e : s = m
    · subst e; exact hself.2.2 ha
    · exact better_trans hself.2.1 (i2 s (by omega) ha)
theorem asc_eq_of_mem : ∀ {a b : List Nat}, a.Pairwise (· < ·) → b.Pairwise (· < ·) → (∀ x, x ∈ a ↔ x ∈ b) → a = b
  | [], [], _, _, _ => rfl
  | [], y :: b, _, _, h => absurd ((h y).2 (by simp)) (by simp)
  | x :: a, [], _, _, h => absurd ((h x).1 (by simp)) (by simp)
  | x :: a, y :: b, ha, hb, h => by
    obtain ⟨a1, a2⟩ := List.pairwise_cons.1 ha
    obtain ⟨b1, b2⟩ := List.pairwise_cons.1 hb
    have e : x = y := by
      have hx := (h x).1 (by simp)
      have hy := (h y).2 (by simp)
      rcases List.mem_cons.1 hx with e | hx
      · exact e
      · rcases List.mem_cons.1 hy with e | hy
        · exact e.symm
        · have := b1 x hx; have := a1 y hy; omega
    subst e
    congr 1
    refine asc_eq_of_mem a2 b2 fun z => ?_
    have hz := h z
    simp only [List.mem_cons] at hz
    constructor
    · intro hm
      have := a1 z hm
      rcases hz.1 (.inr hm) with e | h'
      · omega
      · exact h'
    · intro hm
      have := b1 z hm
      rcases hz.2 (.inr hm) with e | h'
      · omega
      · exact h'
theorem items_mask (hn : n ≤ 12) {l : List Nat} (h : Vl n c l) : itemsL (maskOf l) = l := by
  refine asc_eq_of_mem (items_asc _) h.asc fun x => ?_
  rw [items_mem, maskOf_bit]
  constructor
  · rintro ⟨_, h'⟩; simpa using h'
  · intro hx
    have := h.lt x hx
    exact ⟨by omega, by simpa using hx⟩
theorem wide_eq (hn : n ≤ 12) (h0 : ∀ i, i < n → (c i).testBit i = false) : wideTo c (2 ^ n) = LA c n 0 [] := by
  obtain ⟨h1, h2⟩ := wide_best hn h0 (2 ^ n) (Nat.le_refl _)
  obtain ⟨h3, h4⟩ := LA_all (n := n) (c := c)
  refine better_anti ?_ (h4 _ h1)
  have hm := maskOf_lt _ n h3.lt
  have := h2 (maskOf (LA c n 0 [])) hm ((vl_items hn h0 hm).2 (by rw [items_mask hn h3]; exact h3))
  rwa [items_mask hn h3] at this
end
end Go.Proofs.YtjdckepbihcgfaaGreatDoor

namespace Go.Proofs.YtjdckepbihcgfaaGreatDoor
/-! Dilworth -/
section
variable (lt : Nat → Nat → Prop)
def cmpP (x y : Nat) : Prop := lt x y ∨ lt y x
def AntiP (A : List Nat) : Prop := A.Pairwise fun x y => ¬ cmpP lt x y ∧ x ≠ y
def ColP (P : List Nat) (k : Nat) (f : Nat → Nat) : Prop := (∀ x ∈ P, f x < k) ∧ ∀ x ∈ P, ∀ y ∈ P, x ≠ y → f x = f y → cmpP lt x y
variable {lt}
theorem cmpP.symm {x y : Nat} (h : cmpP lt x y) : cmpP lt y x := Or.symm h
theorem AntiP.of_mem : ∀ {A : List Nat}, AntiP lt A → ∀ {u v : Nat}, u ∈ A → v ∈ A → u ≠ v → ¬ cmpP lt u v
  | [], _, u, v, hu, _, _ => by simp at hu
  | a :: A, h, u, v, hu, hv, huv => by
    obtain ⟨h1, h2⟩ := List.pairwise_cons.1 h
    rcases List.mem_cons.1 hu with e1 | hu2 <;> rcases List.mem_cons.1 hv with e2 | hv2
    · exact absurd (e1.trans e2.symm) huv
    · subst e1; exact (h1 v hv2).1
    · subst e2; exact fun hc => (h1 u hu2).1 hc.symm
    · exact AntiP.of_mem (A := A) h2 hu2 hv2 huv
theorem nodup_le : ∀ (k : Nat) (l : List Nat), l.Nodup → (∀ i ∈ l, i < k) → l.length ≤ k
  | 0, l, _, h => by
    cases l with
    | nil => simp
    | cons a l => exact absurd (h a (by simp)) (by omega)
  | k + 1, l, hn, h => by
    have h1 := nodup_le k (l.erase k) (hn.erase k) (fun i hi => by
      have h2 := h i (List.mem_of_mem_erase hi)
      have h3 : i ≠ k := fun e => by
        subst e
        exact (List.Nodup.mem_erase_iff hn).1 hi |>.1 rfl
      omega)
    have := List.length_erase (a := k) (l := l)
    split at this <;> omega
theorem AntiP.nodup_map {A P : List Nat} {k : Nat} {f : Nat → Nat} (hA : AntiP lt A) (hs : ∀ x ∈ A, x ∈ P) (hc : ColP lt P k f) : (A.map f).Nodup := by
  rw [List.Nodup, List.pairwise_map]
  have hA' : A.Pairwise fun x y => ¬ cmpP lt x y ∧ x ≠ y := hA
  refine List.Pairwise.imp_of_mem (fun {x y} hx hy h e => h.1 (hc.2 x (hs x hx) y (hs y hy) h.2 e)) hA'
theorem AntiP.le {A P : List Nat} {k : Nat} {f : Nat → Nat} (hA : AntiP lt A) (hs : ∀ x ∈ A, x ∈ P) (hc : ColP lt P k f) : A.length ≤ k := by
  have := nodup_le k (A.map f) (hA.nodup_map hs hc) (fun i hi => by
    obtain ⟨x, hx, rfl⟩ := List.mem_map.1 hi
    exact hc.1 x (hs x hx))
  simpa using this
theorem AntiP.all {A P : List Nat} {k : Nat} {f : Nat → Nat} (hA : AntiP lt A) (hs : ∀ x ∈ A, x ∈ P) (hc : ColP lt P k f) (hk : A.length = k) (i : Nat) (hi : i < k) : ∃ x ∈ A, f x = i := by
  refine Classical.byContradiction fun hno => ?_
  have := nodup_le k (i :: A.map f) (List.nodup_cons.2 ⟨fun hm => by
    obtain ⟨x, hx, e⟩ := List.mem_map.1 hm
    exact hno ⟨x, hx, e⟩, hA.nodup_map hs hc⟩) (fun j hj => by
    rcases List.mem_cons.1 hj with rfl | hj
    · exact hi
    · obtain ⟨x, hx, rfl⟩ := List.mem_map.1 hj
      exact hc.1 x (hs x hx))
  simp at this
  omega
theorem exMax (tr : ∀ x y z, lt x y → lt y z → lt x z) (ir : ∀ x, ¬ lt x x) (p : Nat → Prop) : ∀ Q : List Nat, (∃ x ∈ Q, p x) → ∃ x ∈ Q, p x ∧ ∀ y ∈ Q, p y → ¬ lt x y
  | [], h => by obtain ⟨x, hx, _⟩ := h; simp at hx
  | z :: Q, h => by
    by_cases hQ : ∃ x ∈ Q, p x
    · obtain ⟨x, hx, hp, hm⟩ := exMax tr ir p Q hQ
      by_cases hz : p z ∧ lt x z
      · refine ⟨z, by simp, hz.1, fun y hy hpy hl => ?_⟩
        rcases List.mem_cons.1 hy with rfl | hy
        · exact ir _ hl
        · exact hm y hy hpy (tr _ _ _ hz.2 hl)
      · refine ⟨x, by simp [hx], hp, fun y hy hpy hl => ?_⟩
        rcases List.mem_cons.1 hy with rfl | hy
        · exact hz ⟨hpy, hl⟩
        · exact hm y hy hpy hl
    · obtain ⟨x, hx, hp⟩ := h
      rcases List.mem_cons.1 hx with rfl | hx
      · refine ⟨x, by simp, hp, fun y hy hpy hl => ?_⟩
        rcases List.mem_cons.1 hy with rfl | hy
        · exact ir _ hl
        · exact hQ ⟨y, hy, hpy⟩
      · exact absurd ⟨x, hx, hp⟩ hQ
theorem dilworth (tr : ∀ x y z, lt x y → lt y z → lt x z) (ir : ∀ x, ¬ lt x x) : ∀ (m : Nat) (P : List Nat), P.length = m → P.Nodup → ∃ k f A, ColP lt P k f ∧ AntiP lt A ∧ (∀ x ∈ A, x ∈ P) ∧ A.length = k := by
  intro m
  induction m using Nat.strongRecOn with
  | _ m ih =>
    intro P hm hnd
    by_cases h0 : m = 0
    · subst h0
      obtain rfl : P = [] := List.length_eq_zero_iff.1 hm
      exact ⟨0, fun _ => 0, [], ⟨by simp, by simp⟩, .nil, by simp, rfl⟩
    · obtain ⟨a, haP, -, hmax⟩ := exMax tr ir (fun _ => True) P (by
        cases P with
        | nil => simp at hm; omega
        | cons z P => exact ⟨z, by simp, trivial⟩)
      have hQl : (P.erase a).length = m - 1 := by rw [List.length_erase_of_mem haP, hm]
      have hQm : ∀ x, x ∈ P.erase a ↔ x ≠ a ∧ x ∈ P := fun x => List.Nodup.mem_erase_iff hnd
      obtain ⟨k, f, A0, hc, hA0, hs0, hk0⟩ := ih (m - 1) (by omega) (P.erase a) hQl (hnd.erase a)
      -- the topmost of each colour that stands in some longest antichain
      have hx : ∀ i, i < k → ∃ x, x ∈ P.erase a ∧ (f x = i ∧ ∃ A, AntiP lt A ∧ (∀ y ∈ A, y ∈ P.erase a) ∧ A.length = k ∧ x ∈ A) ∧ ∀ y ∈ P.erase a, (f y = i ∧ ∃ A, AntiP lt A ∧ (∀ z ∈ A, z ∈ P.erase a) ∧ A.length = k ∧ y ∈ A) → ¬ lt x y := fun i hi => by
        obtain ⟨y, hy, hfy⟩ := hA0.all hs0 hc hk0 i hi
        obtain ⟨x, h1, h2, h3⟩ := exMax tr ir (fun x => f x = i ∧ ∃ A, AntiP lt A ∧ (∀ y ∈ A, y ∈ P.erase a) ∧ A.length = k ∧ x ∈ A) (P.erase a) ⟨y, hs0 y hy, hfy, A0, hA0, hs0, hk0, hy⟩
        exact ⟨x, h1, h2, h3⟩
      have hx' : ∃ X : Nat → Nat, ∀ i, i < k → X i ∈ P.erase a ∧ (f (X i) = i ∧ ∃ A, AntiP lt A ∧ (∀ y ∈ A, y ∈ P.erase a) ∧ A.length = k ∧ X i ∈ A) ∧ ∀ y ∈ P.erase a, (f y = i ∧ ∃ A, AntiP lt A ∧ (∀ z ∈ A, z ∈ P.erase a) ∧ A.length = k ∧ y ∈ A) → ¬ lt (X i) y :=
        ⟨fun i => if h : i < k then Classical.choose (hx i h) else 0, fun i hi => by
          have := Classical.choose_spec (hx i hi)
          simp only [dif_pos hi]
          exact this⟩
      obtain ⟨X, hX⟩ := hx'
      -- what is of colour i in a longest antichain is not above X i
      have hle : ∀ i, i < k → ∀ y, y ∈ P.erase a → f y = i → (∃ A, AntiP lt A ∧ (∀ z ∈ A, z ∈ P.erase a) ∧ A.length = k ∧ y ∈ A) → y = X i ∨ lt y (X i) := fun i hi y hy hf hA => by
        obtain ⟨x1, x2, x3⟩ := hX i hi
        by_cases e : y = X i
        · exact .inl e
        · right
          rcases hc.2 y hy (X i) x1 e (by rw [hf, x2.1]) with h | h
          · exact h
          · exact absurd h (x3 y hy ⟨hf, hA⟩)
      have hno : ∀ i j, i < k → j < k → i ≠ j → ¬ lt (X i) (X j) := fun i j hi hj hij hl => by
        obtain ⟨_, ⟨x2, A, a1, a2, a3, a4⟩, _⟩ := hX j hj
        obtain ⟨y, hy, hfy⟩ := a1.all a2 hc a3 i hi
        have hyl : lt y (X j) := by
          rcases hle i hi y (a2 y hy) hfy ⟨A, a1, a2, a3, hy⟩ with e | h
          · rw [e]; exact hl
          · exact tr _ _ _ h hl
        have hne : y ≠ X j := fun e => by
          have := congrArg f e
          rw [hfy, x2] at this
          exact hij this
        have hp : ∀ u ∈ A, ∀ v ∈ A, u ≠ v → ¬ cmpP lt u v := by
          intro u hu v hv huv
          exact AntiP.of_mem a1 hu hv huv
        exact hp y hy (X j) a4 hne (.inl hyl)
      have hXA : AntiP lt ((List.range k).map X) := by
        unfold AntiP
        rw [List.pairwise_map]
        refine List.Pairwise.imp_of_mem (fun {i j} hi hj (hij : i ≠ j) => ⟨fun h => ?_, fun e => ?_⟩) List.nodup_range
        · rcases h with h | h
          · exact hno i j (by simpa using hi) (by simpa using hj) hij h
          · exact hno j i (by simpa using hj) (by simpa using hi) hij.symm h
        · have h1 := (hX i (by simpa using hi)).2.1.1
          have h2 := (hX j (by simpa using hj)).2.1.1
          rw [e, h2] at h1
          exact hij h1.symm
      have hXs : ∀ x ∈ (List.range k).map X, x ∈ P.erase a := fun x hx => by
        obtain ⟨i, hi, rfl⟩ := List.mem_map.1 hx
        exact (hX i (by simpa using hi)).1
      by_cases hab : ∃ i, i < k ∧ cmpP lt a (X i)
      · obtain ⟨i, hi, hcm⟩ := hab
        have hXi := hX i hi
        have hXP := (hQm _).1 hXi.1
        have hlt : lt (X i) a := by
          rcases hcm with h | h
          · exact absurd h (hmax _ hXP.2 trivial)
          · exact h
        -- what is left behind the chain through a
        have : ∃ R : List Nat, R.Nodup ∧ R.length < m ∧ ∀ x, x ∈ R ↔ x ∈ P ∧ x ≠ a ∧ ¬ (f x = i ∧ (x = X i ∨ lt x (X i))) := by
          classical
          refine ⟨(P.erase a).filter fun x => decide (¬ (f x = i ∧ (x = X i ∨ lt x (X i)))), (hnd.erase a).filter _, ?_, fun x => ?_⟩
          · have := List.length_filter_le (fun x => decide (¬ (f x = i ∧ (x = X i ∨ lt x (X i))))) (P.erase a)
            omega
          · rw [List.mem_filter, hQm]
            simp only [decide_eq_true_eq]
            constructor
            · rintro ⟨⟨h1, h2⟩, h3⟩; exact ⟨h2, h1, h3⟩
            · rintro ⟨h1, h2, h3⟩; exact ⟨⟨h2, h1⟩, h3⟩
        obtain ⟨R, hRn, hRl, hR⟩ := this
        obtain ⟨k', f', A', hc', hA', hs', hk'⟩ := ih R.length hRl R rfl hRn
        have hsQ : ∀ x ∈ A', x ∈ P.erase a := fun x hx => by
          have := (hR x).1 (hs' x hx)
          exact (hQm x).2 ⟨this.2.1, this.1⟩
        have hkk : k' < k := by
          have h1 := hA'.le hsQ hc
          refine Nat.lt_of_le_of_ne (hk' ▸ h1) fun e => ?_
          obtain ⟨y, hy, hfy⟩ := hA'.all hsQ hc (hk'.trans e) i hi
          have := hle i hi y (hsQ y hy) hfy ⟨A', hA', hsQ, hk'.trans e, hy⟩
          exact ((hR y).1 (hs' y hy)).2.2 ⟨hfy, this⟩
        refine ⟨k, fun x => open Classical in if x ∈ R then f' x else k', (List.range k).map X, ⟨fun x hx => ?_, fun x hx y hy hxy e => ?_⟩, hXA, fun x hx => ((hQm x).1 (hXs x hx)).2, by simp⟩
        · dsimp only
          split
          · rename_i h
            have := hc'.1 x h
            omega
          · exact hkk
        · dsimp only at e
          have inK : ∀ z, z ∈ P → ¬ z ∈ R → z = a ∨ (z ∈ P.erase a ∧ f z = i ∧ (z = X i ∨ lt z (X i))) := fun z hz hn => by
            by_cases ha : z = a
            · exact .inl ha
            · right
              have : f z = i ∧ (z = X i ∨ lt z (X i)) := Classical.byContradiction fun h => hn ((hR z).2 ⟨hz, ha, h⟩)
              exact ⟨(hQm z).2 ⟨ha, hz⟩, this⟩
          have upA : ∀ z, (z = X i ∨ lt z (X i)) → lt z a := fun z h => by
            rcases h with e | h
            · rw [e]; exact hlt
            · exact tr _ _ _ h hlt
          by_cases hxR : x ∈ R <;> by_cases hyR : y ∈ R
          · rw [if_pos hxR, if_pos hyR] at e
            exact hc'.2 x hxR y hyR hxy e
          · rw [if_pos hxR, if_neg hyR] at e
            have := hc'.1 x hxR
            omega
          · rw [if_neg hxR, if_pos hyR] at e
            have := hc'.1 y hyR
            omega
          · rcases inK x hx hxR with rfl | ⟨x1, x2, x3⟩ <;> rcases inK y hy hyR with rfl | ⟨y1, y2, y3⟩
            · exact absurd rfl hxy
            · exact .inr (upA y y3)
            · exact .inl (upA x x3)
            · exact hc.2 x x1 y y1 hxy (by rw [x2, y2])
      · refine ⟨k + 1, fun x => if x = a then k else f x, a :: (List.range k).map X, ⟨fun x hx => ?_, fun x hx y hy hxy e => ?_⟩, ?_, fun x hx => ?_, by simp⟩
        · dsimp only
          split
          · omega
          · rename_i h
            have := hc.1 x ((hQm x).2 ⟨h, hx⟩)
            omega
        · dsimp only at e
          by_cases hxa : x = a <;> by_cases hya : y = a
          · exact absurd (hxa.trans hya.symm) hxy
          · rw [if_pos hxa, if_neg hya] at e
            have := hc.1 y ((hQm y).2 ⟨hya, hy⟩)
            omega
          · rw [if_neg hxa, if_pos hya] at e
            have := hc.1 x ((hQm x).2 ⟨hxa, hx⟩)
            omega
          · rw [if_neg hxa, if_neg hya] at e
            exact hc.2 x ((hQm x).2 ⟨hxa, hx⟩) y ((hQm y).2 ⟨hya, hy⟩) hxy e
        · refine List.pairwise_cons.2 ⟨fun x hx => ?_, hXA⟩
          obtain ⟨i, hi, rfl⟩ := List.mem_map.1 hx
          have hi' : i < k := by simpa using hi
          exact ⟨fun h => hab ⟨i, hi', h⟩, fun e => ((hQm _).1 (hX i hi').1).1 e.symm⟩
        · rcases List.mem_cons.1 hx with rfl | hx
          · exact haP
          · exact ((hQm x).1 (hXs x hx)).2
end
/-! Colours: the least list -/
def fresh (l : List Nat) : Nat := l.foldl (fun m k => max m (k + 1)) 0
theorem fresh_snoc (l : List Nat) (k : Nat) : fresh (l ++ [k]) = max (fresh l) (k + 1) := by simp [fresh]
theorem lt_fresh {l : List Nat} : ∀ k ∈ l, k < fresh l := by
  have key : ∀ (l : List Nat) (m : Nat), m ≤ l.foldl (fun m k => max m (k + 1)) m ∧ ∀ k ∈ l, k < l.foldl (fun m k => max m (k + 1)) m := by
    intro l
    induction l with
    | nil => intro m; simp
    | cons x l ih =>
      intro m
      obtain ⟨h1, h2⟩ := ih (max m (x + 1))
      rw [List.foldl_cons]
      refine ⟨by omega, fun k hk => ?_⟩
      rcases List.mem_cons.1 hk with rfl | hk
      · omega
      · exact h2 k hk
  exact (key l 0).2
def okCl (c : Nat → Nat) (l : List Nat) (k : Nat) : Bool := (List.range l.length).all fun j => !decide (l.getD j 0 = k) || (c l.length).testBit j || (c j).testBit l.length
def tryCl (F : List Nat → Option (List Nat)) (c : Nat → Nat) (l : List Nat) (k : Nat) : Option (List Nat) := if okCl c l k = true then F (l ++ [k]) else none
def CO (c : Nat → Nat) (many : Nat) : Nat → List Nat → Option (List Nat)
  | 0, l => some l
  | f + 1, l => (List.range (min many (fresh l + 1))).findSome? (tryCl (CO c many f) c l)
section
variable {n : Nat} {c : Nat → Nat} {many : Nat}
/-- a list of colours that may stand -/
structure Okl (c : Nat → Nat) (many : Nat) (l : List Nat) : Prop where
  lt : ∀ j (hj : j < l.length), l[j] < many
  cmp : ∀ i j (hi : i < l.length) (hj : j < l.length), i < j → l[i] = l[j] → (c i).testBit j = true ∨ (c j).testBit i = true
theorem Okl.snoc {l : List Nat} {k : Nat} (h : Okl c many l) (hk : k < many) (ho : okCl c l k = true) : Okl c many (l ++ [k]) where
  lt j hj := by
    rw [List.getElem_append]
    split
    · exact h.lt j _
    · simpa using hk
  cmp i j hi hj hij he := by
    simp only [List.length_append, List.length_singleton] at hi hj
    by_cases hjl : j < l.length
    · rw [List.getElem_append_left (by omega), List.getElem_append_left hjl] at he
      exact h.cmp i j (by omega) hjl hij he
    · obtain rfl : j = l.length := by omega
      rw [List.getElem_append_left (by omega)] at he
      have := List.all_eq_true.1 ho i (by rw [List.mem_range]; omega)
      have hd : l.getD i 0 = k := by
        rw [List.getD_eq_getElem?_getD, List.getElem?_eq_getElem (by omega)]
        simpa using he
      rw [hd] at this
      simp only [decide_true, Bool.not_true, Bool.false_or, Bool.or_eq_true] at this
      rcases this with h' | h'
      · exact .inr h'
      · exact .inl h'
theorem CO_sound : ∀ f (l q : List Nat), Okl c many l → CO c many f l = some q → Okl c many q ∧ q.length = l.length + f
  | 0, l, q, h, e => by
    rw [CO] at e; cases e
    exact ⟨h, by omega⟩
  | f + 1, l, q, h, e => by
    rw [CO, List.findSome?_eq_some_iff] at e
    obtain ⟨l1, k, l2, hl, he, _⟩ := e
    have hk : k < min many (fresh l + 1) := by
      have : k ∈ List.range (min many (fresh l + 1)) := by rw [hl]; simp
      simpa using this
    unfold tryCl at he
    split at he
    · rename_i ho
      obtain ⟨h1, h2⟩ := CO_sound f _ q (h.snoc (by omega) ho) he
      exact ⟨h1, by rw [h2]; simp; omega⟩
    · cases he
/-- a colouring -/
structure Clg (n : Nat) (c : Nat → Nat) (many : Nat) (g : Nat → Nat) : Prop where
  lt : ∀ i, i < n → g i < many
  cmp : ∀ i j, i < n → j < n → i ≠ j → g i = g j → (c i).testBit j = true ∨ (c j).testBit i = true
def swp (a b x : Nat) : Nat := if x = a then b else if x = b then a else x
theorem swp_inj {a b x y : Nat} (h : swp a b x = swp a b y) : x = y := by
  unfold swp at h
  repeat' split at h
  all_goals omega
theorem CO_complete : ∀ f (l : List Nat) (g : Nat → Nat), l.length + f = n → Clg n c many g → (∀ j (hj : j < l.length), g j = l[j]) → CO c many f l ≠ none
  | 0, l, g, _, _, _ => by simp [CO]
  | f + 1, l, g, hlen, hg, hag => by
    have hin : l.length < n := by omega
    -- with a colour that is tried
    have key : ∀ g : Nat → Nat, Clg n c many g → (∀ j (hj : j < l.length), g j = l[j]) → g l.length ≤ fresh l → CO c many (f + 1) l ≠ none := by
      intro g hg hag hle hno
      rw [CO, List.findSome?_eq_none_iff] at hno
      have hlt := hg.lt l.length hin
      have := hno (g l.length) (by rw [List.mem_range]; omega)
      unfold tryCl at this
      rw [if_pos (by
        unfold okCl
        rw [List.all_eq_true]
        intro j hj
        rw [List.mem_range] at hj
        have hd : l.getD j 0 = g j := by
          rw [List.getD_eq_getElem?_getD, List.getElem?_eq_getElem hj, hag j hj]; rfl
        rw [hd]
        by_cases e : g j = g l.length
        · have := hg.cmp j l.length (by omega) hin (by omega) e
          simp only [Bool.or_eq_true]
          rcases this with h | h
          · exact .inr h
          · exact .inl (.inr h)
        · simp [e])] at this
      refine CO_complete f (l ++ [g l.length]) g (by simp; omega) hg (fun j hj => ?_) this
      rw [List.getElem_append]
      split
      · exact hag j _
      · rename_i hn
        have : j = l.length := by simp at hj; omega
        subst this; simp
    by_cases hle : g l.length ≤ fresh l
    · exact key g hg hag hle
    · have hbig := hg.lt l.length hin
      refine key (fun x => swp (fresh l) (g l.length) (g x)) ⟨fun i hi => ?_, fun i j hi hj hij e => hg.cmp i j hi hj hij (swp_inj e)⟩ (fun j hj => ?_) ?_
      · have := hg.lt i hi
        unfold swp
        repeat' split
        all_goals omega
      · have h1 := hag j hj
        have h2 := lt_fresh (l := l) l[j] (List.getElem_mem hj)
        show swp (fresh l) (g l.length) (g j) = l[j]
        unfold swp
        rw [if_neg (by omega), if_neg (by omega), h1]
      · show swp (fresh l) (g l.length) (g l.length) ≤ fresh l
        unfold swp
        rw [if_neg (by omega), if_pos rfl]
        exact Nat.le_refl _
/-- as many as the longest antichain has -/
def wid (n : Nat) (c : Nat → Nat) : Nat := (LA c n 0 []).length
def ltP (n : Nat) (c : Nat → Nat) (i j : Nat) : Prop := i < n ∧ j < n ∧ (c i).testBit j = true
theorem Po.dil (hn : n ≤ 12) (h : Po n c) : ∃ g, Clg n c (wid n c) g := by
  obtain ⟨k, f, A, h1, h2, h3, h4⟩ := dilworth (lt := ltP n c) (fun x y z ⟨a1, a2, a3⟩ ⟨_, b2, b3⟩ => ⟨a1, b2, h.tr x y z a1 a2 a3 b3⟩) (fun x ⟨a1, _, a3⟩ => by rw [h.irr x a1] at a3; cases a3) n (List.range n) (by simp) List.nodup_range
  have hAn : A.Nodup := by
    have : A.Pairwise fun x y => ¬ cmpP (ltP n c) x y ∧ x ≠ y := h2
    exact this.imp fun h => h.2
  have hAlt : ∀ x ∈ A, x < n := fun x hx => by simpa using h3 x hx
  have hm := maskOf_lt A n hAlt
  have hmem : ∀ x, x ∈ itemsL (maskOf A) ↔ x ∈ A := fun x => by
    rw [items_mem, maskOf_bit]
    constructor
    · rintro ⟨_, h'⟩; simpa using h'
    · intro hx
      have := hAlt x hx
      exact ⟨by omega, by simpa using hx⟩
  have hnd : (itemsL (maskOf A)).Nodup := (items_asc _).imp fun h => Nat.ne_of_lt h
  have hlen : (itemsL (maskOf A)).length = A.length := ((List.perm_ext_iff_of_nodup hnd hAn).2 hmem).length_eq
  have hv : Vl n c (itemsL (maskOf A)) := by
    refine (vl_items hn h.irr hm).1 ((apartB_iff _ (Nat.lt_of_lt_of_le hm (by rw [show 4096 = 2 ^ 12 by rfl]; exact Nat.pow_le_pow_right (by decide) hn))).2 fun i hi j hj => ?_)
    rw [hmem] at hi hj
    by_cases e : i = j
    · subst e; exact h.irr i (hAlt i hi)
    · have := AntiP.of_mem h2 hi hj e
      cases hb : (c i).testBit j
      · rfl
      · exact absurd (.inl ⟨hAlt i hi, hAlt j hj, hb⟩) this
  have hk : k ≤ wid n c := by
    have := (LA_all (n := n) (c := c)).2 _ hv
    unfold wid
    rcases this with h' | ⟨h', _⟩ <;> omega
  refine ⟨f, fun i hi => ?_, fun i j hi hj hij e => ?_⟩
  · have := h1.1 i (by simpa using hi); omega
  · rcases h1.2 i (by simpa using hi) j (by simpa using hj) hij e with h' | h'
    · exact .inl h'.2.2
    · exact .inr h'.2.2
theorem Po.CO_wid (hn : n ≤ 12) (h : Po n c) : CO c (wid n c) n [] ≠ none := by
  obtain ⟨g, hg⟩ := h.dil hn
  exact CO_complete n [] g (by simp) hg (fun j hj => by simp at hj)
end
end Go.Proofs.YtjdckepbihcgfaaGreatDoor

namespace Go.Proofs.YtjdckepbihcgfaaGreatDoor
open Go.RowKit

structure Span where
  frm : Int
  til : Int

/-- the slice's address reads as the list of spans -/
def RdSpan (w : World) (A : Option Addr) (l : List Span) : Prop :=
  ∀ i s, l[i]? = some s → ∃ b o, A = some ⟨b, o, none⟩ ∧ b < w.heap.size ∧ w.cell? ⟨b, o + i * 2, none⟩ = some (.int .i64 s.frm) ∧ w.cell? ⟨b, o + i * 2 + 1, none⟩ = some (.int .i64 s.til)
theorem RdSpan.below {w w' : World} {A : Option Addr} {l : List Span} (h : RdSpan w A l) (hb : Below w.heap.size w w') : RdSpan w' A l := by
  intro i s hs
  obtain ⟨b, o, h1, h2, h3, h4⟩ := h i s hs
  exact ⟨b, o, h1, Nat.lt_of_lt_of_le h2 hb.size, (hb.cell (p := ⟨b, _, none⟩) h2).trans h3, (hb.cell (p := ⟨b, _, none⟩) h2).trans h4⟩
theorem RdSpan.at_ {w wr : World} {A : Option Addr} {l : List Span} (h : RdSpan w A l) (hb : Below w.heap.size w wr) (k : Nat) (hk : k < l.length) :
    ∃ b o, A = some ⟨b, o, none⟩ ∧ b < w.heap.size ∧ b < wr.heap.size ∧ wr.cell? ⟨b, o + k * 2, none⟩ = some (.int .i64 l[k].frm) ∧ wr.cell? ⟨b, o + k * 2 + 1, none⟩ = some (.int .i64 l[k].til) := by
  obtain ⟨b, o, h1, h2, h3, h4⟩ := h k l[k] (by simp [hk])
  exact ⟨b, o, h1, h2, Nat.lt_of_lt_of_le h2 hb.size, (hb.cell (p := ⟨b, _, none⟩) h2).trans h3, (hb.cell (p := ⟨b, _, none⟩) h2).trans h4⟩

def badSpan (s : Span) : Bool := decide (s.frm < 0) || decide (s.til < s.frm) || decide (1000000 < s.til)
def chk (l : List Span) : Int := if 12 < l.length then 2 else if l.any badSpan then 3 else 0
theorem chk_large {l : List Span} (h : 12 < l.length) : chk l = 2 := by simp [chk, h]
theorem chk_bad {l : List Span} (h : ¬ 12 < l.length) (k : Nat) (hk : k < l.length) (hb : badSpan l[k] = true) : chk l = 3 := by
  have : l.any badSpan = true := List.any_eq_true.2 ⟨l[k], List.getElem_mem hk, hb⟩
  simp [chk, h, this]
theorem chk_ok {l : List Span} (h : ¬ 12 < l.length) (hb : (l.take l.length).any badSpan = false) : chk l = 0 := by
  rw [List.take_length] at hb
  simp [chk, h, hb]
theorem any_take_succS {l : List Span} {k : Nat} (hk : k < l.length) (h : (l.take k).any badSpan = false) (hb : badSpan l[k] = false) : (l.take (k + 1)).any badSpan = false := by
  rw [List.take_succ_eq_append_getElem hk, List.any_append, h]
  simp [hb]

set_option maxHeartbeats 1000000 in
theorem check_any (A : Option Addr) (c : Nat) (l : List Span) (w : World) (hl : l.length ≤ 9223372036854775807) (hA : RdSpan w A l) :
    Calls Tryz.prog 51 #[.slice A l.length c] w fun e w' => e = .returned (.int .i64 (chk l)) ∧ Below w.heap.size w w' := by
  by_cases h12 : 12 < l.length
  · go_enter Tryz.func51, Tryz.ntmps51
    go_wp2
    go_ret
    exact ⟨ret_int (chk_large h12).symm, Below.refl _ _⟩
  · go_enter Tryz.func51, Tryz.ntmps51
    go_wp2
    go_loopw [10] (fun i wr => ∃ k : Nat, k ≤ l.length ∧ i = .int .i64 k ∧ (l.take k).any badSpan = false ∧ Below w.heap.size w wr) (fun i _ => l.length - (intOf i).toNat)
    case atStart => exact ⟨0, by omega, rfl, by simp, Below.refl _ _⟩
    case round =>
      obtain ⟨k, hk, rfl, hb, hbel⟩ := hrel
      by_cases hlt : k < l.length
      · obtain ⟨b, o, rfl, -, hbs, c1, c2⟩ := hA.at_ hbel k hlt
        by_cases hbad : badSpan l[k] = true
        · have Hbad := Lib.hid hbad; clear hbad
          go_wp2
          all_goals first | (go_ret; exact ⟨ret_int (chk_bad h12 k hlt Hbad.out).symm, by (repeat (first | assumption | exact Below.refl _ _ | refine bel_alloc ?_ _ | refine Below.drew ?_ | refine below_drewN' ?_ _ | (refine bel_set ?_ (by first | (simp; done) | (simp; omega)) _) | (refine bel_row ?_ (by first | (simp; done) | (simp; omega)) _)))⟩) | (exfalso; have := Hbad.out; simp [badSpan] at this; omega)
        · have Hbad := Lib.hid (Bool.eq_false_iff.2 hbad); clear hbad
          go_wp2
          all_goals first | (exfalso; have := Hbad.out; simp [badSpan] at this; omega) | skip
          go_roundw
          case rel => exact ⟨k + 1, by omega, by go_num, any_take_succS hlt hb Hbad.out, by (repeat (first | assumption | exact Below.refl _ _ | refine bel_alloc ?_ _ | refine Below.drew ?_ | refine below_drewN' ?_ _ | (refine bel_set ?_ (by first | (simp; done) | (simp; omega)) _) | (refine bel_row ?_ (by first | (simp; done) | (simp; omega)) _)))⟩
          case measure => simp [intOf]; omega
      · obtain rfl : k = l.length := by omega
        go_wp2
        go_ret
        exact ⟨ret_int (chk_ok h12 hb).symm, hbel⟩

/-- the first time at which as many as possible meet: as the text finds it -/
def meetN (l : List Span) (t : Int) : Nat := l.countP fun s => decide (s.frm ≤ t) && decide (t ≤ s.til)
def meetStep (l : List Span) (s : Int × Int) (x : Span) : Int × Int :=
  if s.2 < meetN l x.frm ∨ ((meetN l x.frm : Int) = s.2 ∧ x.frm < s.1) then (x.frm, meetN l x.frm) else s
def meets (l : List Span) : Int × Int := l.foldl (meetStep l) (0, 0)
theorem meetN_succ (l : List Span) (t : Int) (k : Nat) (hk : k < l.length) : meetN (l.take (k + 1)) t = meetN (l.take k) t + if l[k].frm ≤ t ∧ t ≤ l[k].til then 1 else 0 := by
  unfold meetN
  rw [List.take_succ_eq_append_getElem hk, List.countP_append]
  by_cases h : l[k].frm ≤ t ∧ t ≤ l[k].til
  · simp [h]
  · rw [if_neg h]
    have : (decide (l[k].frm ≤ t) && decide (t ≤ l[k].til)) = false := by simp; omega
    simp [List.countP_cons, this]
theorem meetN_le (l : List Span) (t : Int) (m : Nat) : meetN (l.take m) t ≤ m := Nat.le_trans List.countP_le_length (List.length_take_le _ _)

set_option maxHeartbeats 4000000 in
theorem meets_ok (A : Option Addr) (c : Nat) (l : List Span) (w : World) (hl : l.length ≤ 9223372036854775807) (hA : RdSpan w A l) (h0 : chk l = 0) :
    Calls Tryz.prog 20 #[.slice A l.length c] w fun e w' => e = .returned (.tuple #[.int .i64 (meets l).1, .int .i64 (meets l).2, .int .i64 0]) ∧ Below w.heap.size w w' := by
  have H0 := Lib.hid h0
  have hne : (chk l != 0) = false := by simp [h0]
  clear h0
  go_enter Tryz.func20, Tryz.ntmps20
  go_wp2_with (go_at_call 51; refine (check_any _ _ _ _ (by omega) (hA.below (by (repeat (first | assumption | exact Below.refl _ _ | refine bel_alloc ?_ _ | refine Below.drew ?_ | refine below_drewN' ?_ _ | (refine bel_set ?_ (by first | (simp; done) | (simp; omega)) _) | (refine bel_row ?_ (by first | (simp; done) | (simp; omega)) _)))))).mono ?_; rintro e w1 ⟨rfl, hb1⟩)
  go_loopw [6, 7, 20] (fun a m i wr => ∃ k : Nat, k ≤ l.length ∧ i = .int .i64 k ∧ a = .int .i64 ((l.take k).foldl (meetStep l) (0, 0)).1 ∧ m = .int .i64 ((l.take k).foldl (meetStep l) (0, 0)).2 ∧ Below w.heap.size w wr) (fun _ _ i _ => l.length - (intOf i).toNat)
  case atStart => exact ⟨0, by omega, rfl, rfl, rfl, hb1⟩
  case round =>
    obtain ⟨k, hk, rfl, rfl, rfl, hbel⟩ := hrel
    by_cases hlt : k < l.length
    · obtain ⟨b, o, rfl, hb0, hbs, c1, c2⟩ := hA.at_ hbel k hlt
      have hf := foldl_take_succ (meetStep l) (0, 0) l k hlt
      have Hf := Lib.hid hf; clear hf
      generalize (l.take k).foldl (meetStep l) (0, 0) = st at *
      go_wp2
      obtain ⟨wo, rfl⟩ : ∃ wo : World, wo = wr := ⟨_, rfl⟩
      go_loopw [10, 26] (fun n i wr => ∃ m : Nat, m ≤ l.length ∧ i = .int .i64 m ∧ n = .int .i64 (meetN (l.take m) l[k].frm) ∧ Below w.heap.size w wr ∧ Blk wr wo.heap.size 52 #[.int .i64 l[k].frm, .int .i64 l[k].til]) (fun _ i _ => l.length - (intOf i).toNat)
      case atStart => exact ⟨0, by omega, rfl, by simp [meetN], by (repeat (first | assumption | exact Below.refl _ _ | refine bel_alloc ?_ _ | refine Below.drew ?_ | refine below_drewN' ?_ _ | (refine bel_set ?_ (by first | (simp; done) | (simp; omega)) _) | (refine bel_row ?_ (by first | (simp; done) | (simp; omega)) _))), Blk.new _ _ _⟩
      case round =>
        obtain ⟨m, hm, rfl, rfl, hbel2, ha2⟩ := hrel
        have a0 := ha2.cell 0
        have a1 := ha2.cell 1
        have a5 := ha2.lt
        simp only [List.getElem?_toArray, List.getElem?_cons_succ, List.getElem?_cons_zero] at a0 a1
        by_cases hlt2 : m < l.length
        · obtain ⟨b', o', e', hb0', hbs', d1, d2⟩ := hA.at_ hbel2 m hlt2
          obtain ⟨rfl, rfl⟩ : b = b' ∧ o = o' := by simpa using e'
          have hs := meetN_succ l l[k].frm m hlt2
          have Hs := Lib.hid hs; clear hs e'
          have hle := meetN_le l l[k].frm m
          generalize meetN (l.take m) l[k].frm = cnt at *
          go_wp2
          all_goals
            go_roundw
            case rel => exact ⟨m + 1, by omega, by go_num, by rw [Hs.out]; split <;> first | go_num | (exfalso; omega), by (repeat (first | assumption | exact Below.refl _ _ | refine bel_alloc ?_ _ | refine Below.drew ?_ | refine below_drewN' ?_ _ | (refine bel_set ?_ (by first | (simp; done) | (simp; omega)) _) | (refine bel_row ?_ (by first | (simp; done) | (simp; omega)) _))), ha2.alloc _⟩
            case measure => simp [intOf]; omega
        · obtain rfl : m = l.length := by omega
          go_wp2
          all_goals
            go_roundw
            case rel => exact ⟨k + 1, by omega, by go_num, by rw [Hf.out, meetStep]; split <;> first | rfl | (simp; omega) | (exfalso; omega), by rw [Hf.out, meetStep]; split <;> first | rfl | (simp; omega) | (exfalso; omega), by (repeat (first | assumption | exact Below.refl _ _ | refine bel_alloc ?_ _ | refine Below.drew ?_ | refine below_drewN' ?_ _ | (refine bel_set ?_ (by first | (simp; done) | (simp; omega)) _) | (refine bel_row ?_ (by first | (simp; done) | (simp; omega)) _)))⟩
            case measure => simp [intOf]; omega
    · obtain rfl : k = l.length := by omega
      go_wp2
      go_ret3
      exact ⟨by simp [meets, H0.out], hbel⟩

end Go.Proofs.YtjdckepbihcgfaaGreatDoor

namespace Go.Proofs.YtjdckepbihcgfaaGreatDoor
open Go.RowKit

theorem meets_fold (l : List Span) : ∀ (m : List Span) (s : Int × Int), s.2 ≤ (m.foldl (meetStep l) s).2 ∧ (∀ x ∈ m, (meetN l x.frm : Int) ≤ (m.foldl (meetStep l) s).2) ∧ ((m.foldl (meetStep l) s).2 = s.2 ∨ ∃ x ∈ m, (m.foldl (meetStep l) s).2 = meetN l x.frm)
  | [], s => ⟨Int.le_refl _, by simp, .inl rfl⟩
  | x :: m, s => by
    obtain ⟨h1, h2, h3⟩ := meets_fold l m (meetStep l s x)
    rw [List.foldl_cons]
    have hs : s.2 ≤ (meetStep l s x).2 ∧ (meetN l x.frm : Int) ≤ (meetStep l s x).2 ∧ ((meetStep l s x).2 = s.2 ∨ (meetStep l s x).2 = meetN l x.frm) := by
      unfold meetStep
      split
      · rename_i h; exact ⟨by dsimp only; omega, Int.le_refl _, .inr rfl⟩
      · rename_i h; exact ⟨Int.le_refl _, by omega, .inl rfl⟩
    refine ⟨by omega, fun y hy => ?_, ?_⟩
    · rcases List.mem_cons.1 hy with rfl | hy
      · omega
      · exact h2 y hy
    · rcases h3 with h3 | ⟨y, hy, h3⟩
      · rcases hs.2.2 with h4 | h4
        · exact .inl (h3.trans h4)
        · exact .inr ⟨x, List.mem_cons_self, h3.trans h4⟩
      · exact .inr ⟨y, List.mem_cons_of_mem _ hy, h3⟩
theorem countP_range {α : Type} (l : List α) (d : α) (p : α → Bool) : l.countP p = ((List.range l.length).filter fun j => p (l.getD j d)).length := by
  rw [← List.countP_eq_length_filter]
  have h : l = (List.range l.length).map fun j => l.getD j d := by
    refine List.ext_getElem (by simp) fun i h1 h2 => ?_
    rw [List.getElem_map, List.getElem_range, List.getD_eq_getElem?_getD, List.getElem?_eq_getElem h1]; rfl
  conv => lhs; rw [h]
  rw [List.countP_map]; rfl
def spD (l : List Span) (i : Nat) : Span := l.getD i ⟨0, 0⟩
/-- who is ahead of whom, of spans -/
structure Ivl (l : List Span) (c : Nat → Nat) : Prop where
  rel : ∀ i j, i < l.length → j < l.length → ((c i).testBit j = true ↔ (spD l i).til < (spD l j).frm)
  span : ∀ i, i < l.length → (spD l i).frm ≤ (spD l i).til
def atT (l : List Span) (t : Int) : List Nat := (List.range l.length).filter fun j => decide ((spD l j).frm ≤ t) && decide (t ≤ (spD l j).til)
theorem atT_len (l : List Span) (t : Int) : (atT l t).length = meetN l t := (countP_range l ⟨0, 0⟩ fun s => decide (s.frm ≤ t) && decide (t ≤ s.til)).symm
theorem atT_mem {l : List Span} {t : Int} {j : Nat} : j ∈ atT l t ↔ j < l.length ∧ (spD l j).frm ≤ t ∧ t ≤ (spD l j).til := by
  unfold atT
  rw [List.mem_filter, List.mem_range, Bool.and_eq_true, decide_eq_true_eq, decide_eq_true_eq]
theorem Ivl.vl {l : List Span} {c : Nat → Nat} (h : Ivl l c) (t : Int) : Vl l.length c (atT l t) := by
  refine ⟨List.pairwise_lt_range.filter _, fun x hx => (atT_mem.1 hx).1, ?_⟩
  rw [List.pairwise_iff_getElem]
  intro i j hi hj hij
  obtain ⟨a1, a2, a3⟩ := atT_mem.1 (List.getElem_mem hi)
  obtain ⟨b1, b2, b3⟩ := atT_mem.1 (List.getElem_mem hj)
  constructor
  · rw [Bool.eq_false_iff]; intro hb
    have := (h.rel _ _ a1 b1).1 hb
    omega
  · rw [Bool.eq_false_iff]; intro hb
    have := (h.rel _ _ b1 a1).1 hb
    omega
theorem most_of {l : List Nat} (g : Nat → Int) (h : l ≠ []) : ∃ m ∈ l, ∀ x ∈ l, g x ≤ g m := by
  induction l with
  | nil => exact absurd rfl h
  | cons a r ih =>
    by_cases hr : r = []
    · subst hr
      exact ⟨a, by simp, fun x hx => by rw [List.mem_singleton] at hx; subst hx; exact Int.le_refl _⟩
    · obtain ⟨m, hm, hx⟩ := ih hr
      by_cases hc : g a ≤ g m
      · exact ⟨m, List.mem_cons_of_mem _ hm, fun x h' => by
          rcases List.mem_cons.1 h' with rfl | h'
          · exact hc
          · exact hx x h'⟩
      · exact ⟨a, by simp, fun x h' => by
          rcases List.mem_cons.1 h' with rfl | h'
          · exact Int.le_refl _
          · have := hx x h'; omega⟩
theorem Ivl.wid {l : List Span} {c : Nat → Nat} (h : Ivl l c) : ((wid l.length c : Nat) : Int) = (meets l).2 := by
  obtain ⟨hv, hb⟩ := LA_all (n := l.length) (c := c)
  obtain ⟨_, h2, h3⟩ := meets_fold l l (0, 0)
  have hup : (meets l).2 ≤ ((Go.Proofs.YtjdckepbihcgfaaGreatDoor.wid l.length c : Nat) : Int) := by
    unfold meets
    rcases h3 with h3 | ⟨x, hx, h3⟩
    · rw [h3]; show (0 : Int) ≤ _; omega
    · rw [h3, ← atT_len]
      have := hb _ (h.vl x.frm)
      unfold Go.Proofs.YtjdckepbihcgfaaGreatDoor.wid
      rcases this with h' | ⟨h', _⟩ <;> omega
  refine Int.le_antisymm ?_ hup
  by_cases he : LA c l.length 0 [] = []
  · unfold Go.Proofs.YtjdckepbihcgfaaGreatDoor.wid
    rw [he]
    have := (meets_fold l l (0, 0)).1
    exact this
  · obtain ⟨m, hm, hmx⟩ := most_of (fun i => (spD l i).frm) he
    have hml := hv.lt m hm
    have hsub : ∀ x ∈ LA c l.length 0 [], x ∈ atT l (spD l m).frm := fun x hx => by
      have hxl := hv.lt x hx
      refine atT_mem.2 ⟨hxl, hmx x hx, ?_⟩
      by_cases e : x = m
      · subst e; exact h.span x hxl
      · have hap : apP c x m := by
          obtain ⟨i, hi, rfl⟩ := List.mem_iff_getElem.1 hx
          obtain ⟨j, hj, rfl⟩ := List.mem_iff_getElem.1 hm
          have hp := List.pairwise_iff_getElem.1 hv.ap
          rcases Nat.lt_trichotomy i j with h' | h' | h'
          · exact hp i j hi hj h'
          · subst h'; exact absurd rfl e
          · exact ⟨(hp j i hj hi h').2, (hp j i hj hi h').1⟩
        have := h.rel x m hxl hml
        rw [hap.1] at this
        exact Int.not_lt.1 fun h' => by cases this.2 h'
    have hnd : (LA c l.length 0 []).Nodup := hv.asc.imp fun h => Nat.ne_of_lt h
    have hle := hnd.length_le_of_subset hsub
    rw [atT_len] at hle
    have hsp : spD l m ∈ l := by
      unfold spD
      rw [List.getD_eq_getElem?_getD, List.getElem?_eq_getElem hml]
      exact List.getElem_mem _
    have := h2 _ hsp
    unfold Go.Proofs.YtjdckepbihcgfaaGreatDoor.wid meets
    omega
/-- all colours are used -/
theorem CO_fresh {n : Nat} {c : Nat → Nat} {q : List Nat} (hq : CO c (wid n c) n [] = some q) : fresh q = wid n c := by
  obtain ⟨h1, h2⟩ := CO_sound n [] q ⟨fun j hj => by simp at hj, fun i j hi => by simp at hi⟩ hq
  have hq' : q.length = n := by simpa using h2
  obtain ⟨hv, _⟩ := LA_all (n := n) (c := c)
  have hup : fresh q ≤ wid n c := by
    have key : ∀ (l : List Nat) (m : Nat), m ≤ wid n c → (∀ x ∈ l, x < wid n c) → l.foldl (fun m k => max m (k + 1)) m ≤ wid n c := by
      intro l
      induction l with
      | nil => intro m hm _; exact hm
      | cons x l ih =>
        intro m hm hx
        rw [List.foldl_cons]
        exact ih _ (by have := hx x List.mem_cons_self; omega) fun y hy => hx y (List.mem_cons_of_mem _ hy)
    refine key q 0 (Nat.zero_le _) fun x hx => ?_
    obtain ⟨j, hj, rfl⟩ := List.mem_iff_getElem.1 hx
    exact h1.lt j hj
  have hc : ColP (ltP n c) (List.range n) (fresh q) (fun i => q.getD i 0) := by
    refine ⟨fun x hx => ?_, fun x hx y hy hxy e => ?_⟩
    · have hx' : x < q.length := by rw [hq']; simpa using hx
      have ex : q.getD x 0 = q[x] := by simp [List.getD_eq_getElem?_getD, hx']
      show q.getD x 0 < fresh q
      rw [ex]
      exact lt_fresh _ (List.getElem_mem _)
    · have hx' : x < q.length := by rw [hq']; simpa using hx
      have hy' : y < q.length := by rw [hq']; simpa using hy
      have ex : q.getD x 0 = q[x] := by simp [List.getD_eq_getElem?_getD, hx']
      have ey : q.getD y 0 = q[y] := by simp [List.getD_eq_getElem?_getD, hy']
      have e' : q[x] = q[y] := by rw [← ex, ← ey]; exact e
      rcases Nat.lt_or_gt_of_ne hxy with h' | h'
      · rcases h1.cmp x y hx' hy' h' e' with h'' | h''
        · exact .inl ⟨by omega, by omega, h''⟩
        · exact .inr ⟨by omega, by omega, h''⟩
      · rcases h1.cmp y x hy' hx' h' e'.symm with h'' | h''
        · exact .inr ⟨by omega, by omega, h''⟩
        · exact .inl ⟨by omega, by omega, h''⟩
  have ha : AntiP (ltP n c) (LA c n 0 []) := by
    unfold AntiP
    rw [List.pairwise_iff_getElem]
    intro i j hi hj hij
    have h3 := (List.pairwise_iff_getElem.1 hv.ap) i j hi hj hij
    have h4 := (List.pairwise_iff_getElem.1 hv.asc) i j hi hj hij
    refine ⟨fun hcm => ?_, by omega⟩
    rcases hcm with ⟨_, _, h'⟩ | ⟨_, _, h'⟩
    · rw [h3.1] at h'; cases h'
    · rw [h3.2] at h'; cases h'
  have := ha.le (fun x hx => by simpa using hv.lt x hx) hc
  unfold wid at hup ⊢
  omega
/-- the closed relation of spans is the relation -/
theorem Ivl.closed {l : List Span} {f : Nat → Nat} (h : Ivl l f) (hl : ∀ i, i < l.length → f i < 2 ^ l.length) (hn : l.length ≤ 12) : Fine l.length f ∧ Ivl l (closedF l.length f) := by
  have hbl : ∀ i j, i < l.length → (f i).testBit j = true → j < l.length := fun i j hi hb => by
    rcases Nat.lt_or_ge j l.length with h' | h'
    · exact h'
    · have h3 := hl i hi
      rw [Nat.testBit_lt_two_pow (Nat.lt_of_lt_of_le h3 (Nat.pow_le_pow_right (by decide) h'))] at hb
      cases hb
  have key : ∀ a b, Rch (bitR f) a b → a < l.length → b < l.length ∧ (spD l a).til < (spD l b).frm := by
    intro a b hab
    induction hab with
    | one hb => intro ha; exact ⟨hbl _ _ ha hb, (h.rel _ _ ha (hbl _ _ ha hb)).1 hb⟩
    | @step i k j hb t ih =>
      intro ha
      have hk := hbl _ _ ha hb
      obtain ⟨h1, h2⟩ := ih hk
      have h3 := (h.rel _ _ ha hk).1 hb
      have h4 := h.span k hk
      exact ⟨h1, by omega⟩
  refine ⟨⟨hn, hl, isCyc_no fun i hi => ?_⟩, fun i j hi hj => ⟨fun hb => (key i j ((closedF_rch hl hi).1 hb) hi).2, fun hlt => (closedF_rch hl hi).2 (.one ((h.rel i j hi hj).2 hlt))⟩, h.span⟩
  rw [Bool.eq_false_iff]
  intro hb
  have h1 := (key i i ((closedF_rch hl hi).1 hb) hi).2
  have h2 := h.span i hi
  omega
end Go.Proofs.YtjdckepbihcgfaaGreatDoor

namespace Go.Proofs.YtjdckepbihcgfaaGreatDoor
open Go.RowKit

end Go.Proofs.YtjdckepbihcgfaaGreatDoor
