/- Registers: both find the same; Check and Turned. No condition. -/
import Derived.Test.YtppicbdaijiifaaReg7
namespace Go.Proofs.Ytppicbdaijiifaa
open Go.RowKit

/-! the same pair -/
section
variable {cs : List Cl} (hR : RegC cs) (hG : GoodW cs)
include hR hG
theorem jOf_eq {n : Nat} (hn : n < cs.length) (hrd : isRd cs[n] = true) : jOf (wrs cs) cs n = ⟨n, nthR cs cs[n].res, decide (levR cs cs[n] = 2), decide (1 ≤ levR cs cs[n])⟩ := by
  have hW := rowW_of hR hG
  have hto : cs[n].to ≠ -1 := by
    simp only [isRd, Bool.and_eq_true, decide_eq_true_eq, Bool.not_eq_true', decide_eq_false_iff_not] at hrd
    exact hrd.2
  have hft : ∀ q (h : q < (wrs cs).length), (wrs cs)[q].from_ ≠ cs[n].to := fun q h =>
    hR.apart _ (List.mem_filter.1 (List.getElem_mem h)).1 _ (List.getElem_mem hn)
  unfold jOf
  rw [getD_W hn, wr_same hW, reg_same hW hto hft, safe_same hW hto hft]
theorem turn_same : turnL cs (keepJ (readsK (wrs cs) cs cs.length)) = pairR (turnC cs) cs.length := by
  have hform : keepJ (readsK (wrs cs) cs cs.length) = ((List.range cs.length).filter fun n => isRd (cs.getD n default) && (jOf (wrs cs) cs n).regular).map (jOf (wrs cs) cs) := by
    unfold keepJ readsK
    rw [List.filter_map, List.filter_filter]
    congr 1
    apply List.filter_congr
    intro x _
    simp only [Function.comp]
    exact Bool.and_comm _ _
  obtain ⟨is, his⟩ : ∃ is, ((List.range cs.length).filter fun n => isRd (cs.getD n default) && (jOf (wrs cs) cs n).regular) = is := ⟨_, rfl⟩
  rw [his] at hform
  have hmem : ∀ n, n ∈ is ↔ n < cs.length ∧ isRd (cs.getD n default) = true ∧ (jOf (wrs cs) cs n).regular = true := fun n => by
    rw [← his, List.mem_filter, List.mem_range, Bool.and_eq_true]
  have hmono : is.Pairwise (· < ·) := by
    rw [← his]
    exact List.pairwise_lt_range.filter _
  rw [List.pairwise_iff_getElem] at hmono
  have hT : ∀ i j, i < cs.length → j < cs.length → (turnC cs i j = true ↔ i ∈ is ∧ j ∈ is ∧ preB cs[i]! cs[j]! = true ∧ (jOf (wrs cs) cs j).write < (jOf (wrs cs) cs i).write) := fun i j hi hj => by
    have ei : cs[i]! = cs[i] := by simp [hi]
    have ej : cs[j]! = cs[j] := by simp [hj]
    rw [hmem, hmem, ei, ej]
    unfold turnC
    rw [getD_W hi, getD_W hj]
    by_cases h1 : isRd cs[i] = true
    · by_cases h2 : isRd cs[j] = true
      · rw [jOf_eq hR hG hi h1, jOf_eq hR hG hj h2]
        simp [h1, h2, hi, hj]
        constructor
        · rintro ⟨a, b, c, d⟩; exact ⟨b, c, a, d⟩
        · rintro ⟨a, b, c, d⟩; exact ⟨c, a, b, d⟩
      · simp [h2]
    · simp [h1]
  have hlen : (keepJ (readsK (wrs cs) cs cs.length)).length = is.length := by rw [hform, List.length_map]
  have hget : ∀ a, a < is.length → (keepJ (readsK (wrs cs) cs cs.length)).getD a default = jOf (wrs cs) cs (is.getD a 0) := fun a ha => by
    rw [hform, List.getD_eq_getElem?_getD, List.getElem?_map, List.getElem?_eq_getElem ha, List.getD_eq_getElem?_getD, List.getElem?_eq_getElem ha]; rfl
  have hn : ∀ n, (jOf (wrs cs) cs n).n = n := fun _ => rfl
  have hP : ∀ a b (ha : a < is.length) (hb : b < is.length), turnP cs (keepJ (readsK (wrs cs) cs cs.length)) a b = turnC cs is[a] is[b] := fun a b ha hb => by
    have ma := (hmem is[a]).1 (List.getElem_mem ha)
    have mb := (hmem is[b]).1 (List.getElem_mem hb)
    have ga : is.getD a 0 = is[a] := by simp [ha]
    have gb : is.getD b 0 = is[b] := by simp [hb]
    unfold turnP
    rw [hget a ha, hget b hb, ga, gb, hn, hn, Bool.eq_iff_iff, hT _ _ ma.1 mb.1, getD_W ma.1, getD_W mb.1]
    have ea : cs[is[a]]! = cs[is[a]]'ma.1 := by simp [ma.1]
    have eb : cs[is[b]]! = cs[is[b]]'mb.1 := by simp [mb.1]
    rw [ea, eb, Bool.and_eq_true, decide_eq_true_eq]
    exact ⟨fun h => ⟨List.getElem_mem ha, List.getElem_mem hb, h⟩, fun h => h.2.2⟩
  have hno : ∀ i j, i < cs.length → j < cs.length → turnC cs i j = true → ∃ a b, ∃ ha : a < is.length, ∃ hb : b < is.length, is[a] = i ∧ is[b] = j := fun i j hi hj h => by
    obtain ⟨h1, h2, _⟩ := (hT i j hi hj).1 h
    obtain ⟨a, ha, e1⟩ := List.getElem_of_mem h1
    obtain ⟨b, hb, e2⟩ := List.getElem_of_mem h2
    exact ⟨a, b, ha, hb, e1, e2⟩
  unfold turnL
  rw [hlen]
  rcases pairR_inv (p := turnP cs (keepJ (readsK (wrs cs) cs cs.length))) (n := is.length) with ⟨a, b, ha, hb, h1, h2, h3, h4⟩ | ⟨h1, h2⟩
  · rw [h4, Option.map_some]
    dsimp only
    have ma := (hmem is[a]).1 (List.getElem_mem ha)
    have mb := (hmem is[b]).1 (List.getElem_mem hb)
    have ga : is.getD a 0 = is[a] := by simp [ha]
    have gb : is.getD b 0 = is[b] := by simp [hb]
    rw [hget a ha, hget b hb, ga, gb, hn, hn]
    rw [hP a b ha hb] at h1
    refine (pairR_at ma.1 mb.1 h1 (fun i hi j hj => ?_) (fun j hj => ?_)).symm
    · rw [Bool.eq_false_iff]
      intro h
      obtain ⟨a', b', ha', hb', e1, e2⟩ := hno i j (by omega) hj h
      subst e1 e2
      have hlt : a' < a := by
        rcases Nat.lt_trichotomy a' a with h | h | h
        · exact h
        · subst h; omega
        · have := hmono a a' ha ha' h; omega
      have := h2 a' hlt b' hb'
      rw [hP a' b' ha' hb', h] at this
      cases this
    · rw [Bool.eq_false_iff]
      intro h
      obtain ⟨a', b', ha', hb', e1, e2⟩ := hno is[a] j ma.1 (by omega) h
      subst e2
      have hlt : b' < b := by
        rcases Nat.lt_trichotomy b' b with h | h | h
        · exact h
        · subst h; omega
        · have := hmono b b' hb hb' h; omega
      have := h3 b' hlt
      rw [hP a b' ha hb', h] at this
      cases this
  · rw [h2, Option.map_none]
    refine (pairR_none fun i hi j hj => ?_).symm
    rw [Bool.eq_false_iff]
    intro h
    obtain ⟨a, b, ha, hb, e1, e2⟩ := hno i j hi hj h
    subst e1 e2
    have := h1 a ha b hb
    rw [hP a b ha hb, h] at this
    cases this
end
/-! the level -/
def chkStep (v : Int) (j : Jd) : Int := if j.safe = false then 0 else if j.regular = false then min v 1 else v
def chkK (b : Int) (L : List Jd) (k : Nat) : Int := (L.take k).foldl chkStep b
theorem chkK_succ {b : Int} {L : List Jd} {k : Nat} (hk : k < L.length) : chkK b L (k + 1) = chkStep (chkK b L k) L[k] := by
  unfold chkK
  rw [List.take_add_one, List.getElem?_eq_getElem hk, List.foldl_append]; rfl
def lsStep (cs : List Cl) (v : Int) (x : Cl) : Int := if isRd x = true then (if levR cs x < 2 then min v (levR cs x) else v) else v
def lsK (b : Int) (cs : List Cl) (k : Nat) : Int := (cs.take k).foldl (lsStep cs) b
theorem lsK_succ {b : Int} {cs : List Cl} {k : Nat} (hk : k < cs.length) : lsK b cs (k + 1) = lsStep cs (lsK b cs k) cs[k] := by
  unfold lsK
  rw [List.take_add_one, List.getElem?_eq_getElem hk, List.foldl_append]; rfl
theorem levR_cases (cs : List Cl) (x : Cl) : levR cs x = 0 ∨ levR cs x = 1 ∨ levR cs x = 2 := by
  unfold levR
  split
  · exact .inr (.inr rfl)
  · split
    · exact .inr (.inl rfl)
    · exact .inl rfl
theorem lev_same {cs : List Cl} (hR : RegC cs) (hG : GoodW cs) {b : Int} (hb : 0 ≤ b) : ∀ k, k ≤ cs.length → chkK b (readsK (wrs cs) cs k) (readsK (wrs cs) cs k).length = lsK b cs k ∧ 0 ≤ lsK b cs k
  | 0, _ => by simp [chkK, readsK, lsK, hb]
  | k + 1, hk => by
    obtain ⟨ih, ih0⟩ := lev_same hR hG hb k (by omega)
    have hlt : k < cs.length := by omega
    rw [lsK_succ hlt]
    unfold lsStep
    unfold chkK at ih ⊢
    rw [List.take_length] at ih ⊢
    by_cases hr : isRd cs[k] = true
    · rw [if_pos hr, ← readsK_yes (by rw [getD_W hlt]; exact hr), List.foldl_append, ih, jOf_eq hR hG hlt hr]
      simp only [List.foldl_cons, List.foldl_nil, chkStep]
      rcases levR_cases cs cs[k] with h | h | h <;> rw [h]
      · simp; omega
      · simp; omega
      · simp; exact ih0
    · rw [if_neg hr, ← readsK_no (by rw [getD_W hlt]; simpa using hr)]
      exact ⟨ih, ih0⟩
end Go.Proofs.Ytppicbdaijiifaa
