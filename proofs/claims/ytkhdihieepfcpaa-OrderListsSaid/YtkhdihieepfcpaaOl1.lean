/- OrderLists, plain: heights and the longest chain. No condition. -/
import Derived.Test.YtkhdihieepfcpaaOrdF
namespace Go.Proofs.Ytkhdihieepfcpaa
/-! Heights: the longest chains that begin with an item -/
structure Po (n : Nat) (c : Nat → Nat) : Prop where
  lt : ∀ i, i < n → ∀ j, (c i).testBit j = true → j < n
  irr : ∀ i, i < n → (c i).testBit i = false
  tr : ∀ i j k, i < n → j < n → (c i).testBit j = true → (c j).testBit k = true → (c i).testBit k = true
def rkF (n : Nat) (c : Nat → Nat) (i : Nat) : Nat := (List.range n).countP fun j => (c i).testBit j
def bestStep (c : Nat → Nat) (F : Nat → List Nat) (i : Nat) (b : List Nat) (j : Nat) : List Nat := if (c i).testBit j = true ∧ b.length < (F j).length then F j else b
def bestL (c : Nat → Nat) (F : Nat → List Nat) (i m : Nat) : List Nat := (List.range m).foldl (bestStep c F i) []
def LC (n : Nat) (c : Nat → Nat) : Nat → Nat → List Nat
  | 0, i => [i]
  | f + 1, i => i :: bestL c (LC n c f) i n
def chn (n : Nat) (c : Nat → Nat) (i : Nat) : List Nat := LC n c n i
def hgt (n : Nat) (c : Nat → Nat) (i : Nat) : Nat := (chn n c i).length
theorem bestL_succ (c : Nat → Nat) (F : Nat → List Nat) (i m : Nat) : bestL c F i (m + 1) = bestStep c F i (bestL c F i m) m := by
  simp [bestL, List.range_succ]
theorem bestL_congr {c : Nat → Nat} {F G : Nat → List Nat} {i : Nat} : ∀ m, (∀ j, j < m → (c i).testBit j = true → F j = G j) → bestL c F i m = bestL c G i m
  | 0, _ => rfl
  | m + 1, h => by
    rw [bestL_succ, bestL_succ, bestL_congr m (fun j hj => h j (by omega))]
    unfold bestStep
    by_cases hb : (c i).testBit m = true
    · rw [h m (by omega) hb]
    · simp [hb]
theorem countP_lt' {α : Type} {p q : α → Bool} : ∀ {l : List α}, (∀ x ∈ l, p x = true → q x = true) → (∃ x ∈ l, q x = true ∧ p x = false) → l.countP p < l.countP q
  | [], _, h => by obtain ⟨x, hx, _⟩ := h; simp at hx
  | y :: l, h1, h2 => by
    have hle : l.countP p ≤ l.countP q := List.countP_mono_left (fun x hx => h1 x (by simp [hx]))
    simp only [List.countP_cons]
    by_cases hl : ∃ x ∈ l, q x = true ∧ p x = false
    · have ih := countP_lt' (fun x hx => h1 x (by simp [hx])) hl
      have := h1 y (by simp)
      cases hp : p y
      · cases hq : q y <;> simp <;> omega
      · rw [hp] at this; rw [this rfl]; simp; omega
    · obtain ⟨x, hx, hq, hp⟩ := h2
      rcases List.mem_cons.1 hx with rfl | hx
      · rw [hq, hp]; simp; omega
      · exact absurd ⟨x, hx, hq, hp⟩ hl
section
variable {n : Nat} {c : Nat → Nat}
theorem Po.rk_lt (h : Po n c) {i j : Nat} (hi : i < n) (hb : (c i).testBit j = true) : rkF n c j < rkF n c i := by
  have hj := h.lt i hi j hb
  exact countP_lt' (fun x hx hp => h.tr i j x hi hj hb hp) ⟨j, by simpa using hj, hb, h.irr j hj⟩
theorem rk_le (i : Nat) : rkF n c i ≤ n := by
  have := List.countP_le_length (p := fun j => (c i).testBit j) (l := List.range n)
  simpa [rkF] using this
theorem Po.LC_eq (h : Po n c) : ∀ f f' i, i < n → rkF n c i ≤ f → rkF n c i ≤ f' → LC n c f i = LC n c f' i
  | 0, 0, i, hi, _, _ => rfl
  | 0, f' + 1, i, hi, h0, _ => by
    have e : bestL c (LC n c f') i n = bestL c (fun _ => []) i n := bestL_congr n (fun j hj hb => by have := h.rk_lt hi hb; omega)
    have e2 : ∀ m, bestL c (fun _ => []) i m = [] := by
      intro m
      induction m with
      | zero => rfl
      | succ m ih => rw [bestL_succ, ih]; simp [bestStep]
    simp [LC, e, e2]
  | f + 1, 0, i, hi, _, h0 => (h.LC_eq 0 (f + 1) i hi h0 (by omega)).symm
  | f + 1, f' + 1, i, hi, h1, h2 => by
    simp only [LC]
    congr 1
    refine bestL_congr n (fun j hj hb => ?_)
    have := h.rk_lt hi hb
    exact h.LC_eq f f' j hj (by omega) (by omega)
theorem Po.chn_eq (h : Po n c) {i : Nat} (hi : i < n) : chn n c i = i :: bestL c (chn n c) i n := by
  unfold chn
  rw [h.LC_eq n (n + 1) i hi (rk_le i) (by have := rk_le (n := n) (c := c) i; omega)]
  rfl
/-- what the best is -/
theorem best_spec (c : Nat → Nat) (F : Nat → List Nat) (i : Nat) : ∀ m, (∀ j, j < m → (c i).testBit j = true → (F j).length ≤ (bestL c F i m).length) ∧
    (bestL c F i m = [] ∨ ∃ j, j < m ∧ (c i).testBit j = true ∧ bestL c F i m = F j ∧ ∀ j', j' < j → (c i).testBit j' = true → (F j').length < (F j).length)
  | 0 => ⟨fun j hj => by omega, .inl rfl⟩
  | m + 1 => by
    obtain ⟨i1, i2⟩ := best_spec c F i m
    rw [bestL_succ]
    unfold bestStep
    split
    · rename_i hc
      refine ⟨fun j hj hb => ?_, .inr ⟨m, by omega, hc.1, rfl, fun j' hj' hb' => ?_⟩⟩
      · by_cases e : j = m
        · subst e; exact Nat.le_refl _
        · have := i1 j (by omega) hb; omega
      · have := i1 j' hj' hb'; omega
    · rename_i hc
      refine ⟨fun j hj hb => ?_, ?_⟩
      · by_cases e : j = m
        · subst e
          exact Nat.le_of_not_lt fun hl => hc ⟨hb, hl⟩
        · exact i1 j (by omega) hb
      · rcases i2 with h | ⟨j, h1, h2, h3, h4⟩
        · exact .inl h
        · exact .inr ⟨j, by omega, h2, h3, h4⟩
theorem Po.h1 (h : Po n c) {i : Nat} (hi : i < n) : 1 ≤ hgt n c i := by unfold hgt; rw [h.chn_eq hi]; simp
theorem Po.h2 (h : Po n c) {i j : Nat} (hi : i < n) (hb : (c i).testBit j = true) : hgt n c j + 1 ≤ hgt n c i := by
  have := (best_spec c (chn n c) i n).1 j (h.lt i hi j hb) hb
  unfold hgt
  rw [h.chn_eq hi, List.length_cons]; omega
theorem Po.h3 (h : Po n c) {i : Nat} (hi : i < n) : hgt n c i = 1 ∨ ∃ j, j < n ∧ (c i).testBit j = true ∧ hgt n c i = hgt n c j + 1 := by
  rcases (best_spec c (chn n c) i n).2 with e | ⟨j, hj, hb, e, _⟩
  · left; unfold hgt; rw [h.chn_eq hi, e]; rfl
  · right; refine ⟨j, hj, hb, ?_⟩
    unfold hgt; rw [h.chn_eq hi, e]; rfl
theorem Po.h_le_rk (h : Po n c) : ∀ r i, i < n → rkF n c i ≤ r → hgt n c i ≤ rkF n c i + 1 := by
  intro r
  induction r with
  | zero =>
    intro i hi hr
    rcases h.h3 hi with e | ⟨j, _, hb, _⟩
    · omega
    · have := h.rk_lt hi hb; omega
  | succ r ih =>
    intro i hi hr
    rcases h.h3 hi with e | ⟨j, hj, hb, e⟩
    · omega
    · have := h.rk_lt hi hb
      have := ih j hj (by omega)
      omega
theorem Po.rk_lt_n (h : Po n c) {i : Nat} (hi : i < n) : rkF n c i < n := by
  have : (List.range n).countP (fun j => (c i).testBit j) < (List.range n).countP (fun _ => true) := countP_lt' (by simp) ⟨i, by simpa using hi, rfl, h.irr i hi⟩
  simpa [rkF] using this
theorem Po.hn (h : Po n c) {i : Nat} (hi : i < n) : hgt n c i ≤ n := by
  have := h.h_le_rk n i hi (rk_le i)
  have := h.rk_lt_n hi
  omega
/-! the longest chain, of all and least -/
def chainStep (n : Nat) (c : Nat → Nat) (b : List Nat) (i : Nat) : List Nat := if b.length < (chn n c i).length then chn n c i else b
def chainL (n : Nat) (c : Nat → Nat) (m : Nat) : List Nat := (List.range m).foldl (chainStep n c) []
theorem chainL_succ (m : Nat) : chainL n c (m + 1) = chainStep n c (chainL n c m) m := by simp [chainL, List.range_succ]
theorem chain_spec : ∀ m, (∀ j, j < m → hgt n c j ≤ (chainL n c m).length) ∧ (chainL n c m = [] ∨ ∃ j, j < m ∧ chainL n c m = chn n c j ∧ ∀ j', j' < j → hgt n c j' < hgt n c j)
  | 0 => ⟨fun j hj => by omega, .inl rfl⟩
  | m + 1 => by
    obtain ⟨i1, i2⟩ := chain_spec m
    rw [chainL_succ]
    unfold chainStep
    split
    · rename_i hc
      refine ⟨fun j hj => ?_, .inr ⟨m, by omega, rfl, fun j' hj' => ?_⟩⟩
      · by_cases e : j = m
        · subst e; exact Nat.le_refl _
        · have := i1 j (by omega); omega
      · have := i1 j' hj'; unfold hgt at *; omega
    · rename_i hc
      refine ⟨fun j hj => ?_, ?_⟩
      · by_cases e : j = m
        · subst e; unfold hgt; omega
        · exact i1 j (by omega)
      · rcases i2 with h | ⟨j, h1, h3, h4⟩
        · exact .inl h
        · exact .inr ⟨j, by omega, h3, h4⟩
/-- who may stand next, with so many behind -/
def nxt (n : Nat) (c : Nat → Nat) (left : Nat) (out : List Nat) (i : Nat) : Bool := decide (hgt n c i = left) && (out.isEmpty || (c (out.getD (out.length - 1) 0)).testBit i)
def grC (n : Nat) (c : Nat → Nat) : Nat → List Nat → List Nat
  | 0, out => out
  | m + 1, out => match (List.range n).find? (nxt n c (m + 1) out) with
    | some i => grC n c m (out ++ [i])
    | none => grC n c m out
theorem find_is {n i : Nat} {p : Nat → Bool} (hi : i < n) (h : ∀ k, k < i → p k = false) (hp : p i = true) : (List.range n).find? p = some i := by
  rw [List.find?_range_eq_some]
  exact ⟨hp, by simpa using hi, fun k hk => by simp [h k hk]⟩
theorem Po.grC_tail (h : Po n c) : ∀ m (out : List Nat) (i : Nat), i < n → hgt n c i = m + 1 → grC n c m (out ++ [i]) = out ++ chn n c i
  | 0, out, i, hi, hm => by
    have : chn n c i = [i] := by
      have hl : (chn n c i).length = 1 := hm
      rw [h.chn_eq hi] at hl ⊢
      simp only [List.length_cons] at hl
      rw [List.length_eq_zero_iff.1 (by omega : (bestL c (chn n c) i n).length = 0)]
    rw [grC, this]
  | m + 1, out, i, hi, hm => by
    obtain ⟨b1, b2⟩ := best_spec c (chn n c) i n
    have hce := h.chn_eq hi
    have hl : (bestL c (chn n c) i n).length = m + 1 := by
      have hl : (chn n c i).length = m + 1 + 1 := hm
      rw [hce] at hl; simpa using hl
    rcases b2 with e | ⟨j, hj, hb, e, hlt⟩
    · rw [e] at hl; simp at hl
    · rw [e] at hl
      have hf : (List.range n).find? (nxt n c (m + 1) (out ++ [i])) = some j := by
        refine find_is hj (fun k hk => ?_) ?_
        · unfold nxt
          have hlast : (out ++ [i]).getD ((out ++ [i]).length - 1) 0 = i := by simp
          rw [hlast]
          by_cases hbk : (c i).testBit k = true
          · have := hlt k hk hbk
            have : ¬ hgt n c k = m + 1 := by unfold hgt; omega
            simp [this]
          · simp [hbk]
        · unfold nxt
          have hlast : (out ++ [i]).getD ((out ++ [i]).length - 1) 0 = i := by simp
          rw [hlast, hb]
          have : hgt n c j = m + 1 := hl
          simp [this]
      rw [grC, hf]
      simp only
      rw [h.grC_tail m (out ++ [i]) j hj hl, hce, e]
      simp
theorem Po.chain_eq (h : Po n c) : grC n c (chainL n c n).length [] = chainL n c n := by
  obtain ⟨s1, s2⟩ := chain_spec (n := n) (c := c) n
  rcases s2 with e | ⟨j, hj, e, hlt⟩
  · rw [e]; rfl
  · have hl : (chainL n c n).length = hgt n c j := by rw [e]; rfl
    obtain ⟨m, hm⟩ : ∃ m, hgt n c j = m + 1 := ⟨hgt n c j - 1, by have := h.h1 hj; omega⟩
    rw [hl, hm, grC, find_is hj (p := nxt n c (m + 1) []) (fun k hk => by
      have := hlt k hk
      have : ¬ hgt n c k = m + 1 := by omega
      simp [nxt, this]) (by simp [nxt, hm])]
    simp only
    rw [h.grC_tail m [] j hj hm, e]; rfl
end
end Go.Proofs.Ytkhdihieepfcpaa
