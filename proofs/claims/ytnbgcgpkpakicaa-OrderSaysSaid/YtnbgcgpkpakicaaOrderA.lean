/- Orders, plain laws: there is always one who may come; the direct rule and the closed one give the same lists; the counts agree. -/
import Derived.Test.YtnbgcgpkpakicaaOrder9
namespace Go.Proofs.Ytnbgcgpkpakicaa
open Go.RowKit

theorem countP_lt {α : Type} {p q : α → Bool} : ∀ {l : List α}, (∀ x ∈ l, p x = true → q x = true) → (∃ x ∈ l, q x = true ∧ p x = false) → l.countP p < l.countP q
  | [], _, h => by obtain ⟨x, hx, _⟩ := h; simp at hx
  | y :: l, h1, h2 => by
    have hle : l.countP p ≤ l.countP q := List.countP_mono_left (fun x hx => h1 x (by simp [hx]))
    simp only [List.countP_cons]
    by_cases hl : ∃ x ∈ l, q x = true ∧ p x = false
    · have ih := countP_lt (fun x hx => h1 x (by simp [hx])) hl
      have := h1 y (by simp)
      cases hp : p y
      · cases hq : q y <;> simp <;> omega
      · rw [hp] at this; rw [this rfl]; simp; omega
    · obtain ⟨x, hx, hq, hp⟩ := h2
      rcases List.mem_cons.1 hx with rfl | hx
      · rw [hq, hp]; simp; omega
      · exact absurd ⟨x, hx, hq, hp⟩ hl
section
variable {n : Nat} {f : Nat → Nat}
/-- what the plain laws stand on -/
structure Fine (n : Nat) (f : Nat → Nat) : Prop where
  n12 : n ≤ 12
  lt : ∀ i, i < n → f i < 2 ^ n
  acyc : isCyc n (closedF n f) = false
theorem Fine.irr (h : Fine n f) {i : Nat} (hi : i < n) : (closedF n f i).testBit i = false := by
  have := h.acyc
  rw [isCyc, List.any_eq_false] at this
  simpa using this i (by simpa using hi)
theorem Fine.dir (h : Fine n f) {i j : Nat} (hi : i < n) (hb : (f i).testBit j = true) : (closedF n f i).testBit j = true :=
  (closedF_rch h.lt hi).2 (.one hb)
theorem Fine.trans (h : Fine n f) {i j k : Nat} (hi : i < n) (hj : j < n) (h1 : (closedF n f i).testBit j = true) (h2 : (closedF n f j).testBit k = true) : (closedF n f i).testBit k = true :=
  (closedF_rch h.lt hi).2 (((closedF_rch h.lt hi).1 h1).trans ((closedF_rch h.lt hj).1 h2))
theorem mayC_iff (c : Nat → Nat) (out : List Nat) (i : Nat) : mayC n c out i = true ↔ i ∉ out ∧ ∀ j, j < n → (c j).testBit i = true → j ∈ out := by
  simp only [mayC, Bool.and_eq_true, Bool.not_eq_true', List.all_eq_true, List.mem_range, Bool.or_eq_true]
  constructor
  · rintro ⟨h1, h2⟩
    refine ⟨by simpa using h1, fun j hj hb => ?_⟩
    rcases h2 j hj with h | h
    · rw [hb] at h; cases h
    · simpa using h
  · rintro ⟨h1, h2⟩
    refine ⟨by simpa using h1, fun j hj => ?_⟩
    cases hb : (c j).testBit i
    · exact .inl rfl
    · exact .inr (by simpa using h2 j hj hb)
theorem Fine.ripeC (h : Fine n f) : Ripe n (closedF n f) := by
  intro out hnd hlt hlen
  have hex : ∃ i, i < n ∧ i ∉ out := by
    refine Decidable.byContradiction fun hno => ?_
    have hsub : List.range n ⊆ out := fun i hi => by
      refine Decidable.byContradiction fun hni => hno ⟨i, by simpa using hi, hni⟩
    have := (List.nodup_range (n := n)).length_le_of_subset hsub
    simp at this; omega
  have key : ∀ k i, i < n → i ∉ out → (List.range n).countP (fun j => (closedF n f j).testBit i) = k → ∃ i, i < n ∧ mayC n (closedF n f) out i = true := by
    intro k
    induction k using Nat.strongRecOn with
    | _ k ih =>
      intro i hi hio hk
      by_cases hall : ∀ j, j < n → (closedF n f j).testBit i = true → j ∈ out
      · exact ⟨i, hi, (mayC_iff _ _ _).2 ⟨hio, hall⟩⟩
      · have : ∃ j, j < n ∧ (closedF n f j).testBit i = true ∧ j ∉ out := by
          refine Decidable.byContradiction fun hno => hall fun j hj hb => ?_
          exact Decidable.byContradiction fun hjo => hno ⟨j, hj, hb, hjo⟩
        obtain ⟨j, hj, hb, hjo⟩ := this
        refine ih _ ?_ j hj hjo rfl
        rw [← hk]
        refine countP_lt (fun x hx hp => ?_) ⟨j, by simpa using hj, hb, h.irr hj⟩
        exact h.trans (by simpa using hx) hj hp hb
  obtain ⟨i, hi, hio⟩ := hex
  exact key _ i hi hio rfl
theorem Fine.ripe (h : Fine n f) : Ripe n f := by
  intro out hnd hlt hlen
  obtain ⟨i, hi, hm⟩ := h.ripeC out hnd hlt hlen
  rw [mayC_iff] at hm
  exact ⟨i, hi, (mayC_iff _ _ _).2 ⟨hm.1, fun j hj hb => hm.2 j hj (h.dir hj hb)⟩⟩
/-- who is ahead of one in the list is in it -/
def Down (n : Nat) (f : Nat → Nat) (out : List Nat) : Prop := ∀ i ∈ out, ∀ j, j < n → (f j).testBit i = true → j ∈ out
theorem Fine.bitlt (h : Fine n f) {i j : Nat} (hi : i < n) (hb : (f i).testBit j = true) : j < n := by
  rcases Nat.lt_or_ge j n with h' | h'
  · exact h'
  · rw [Nat.testBit_lt_two_pow (Nat.lt_of_lt_of_le (h.lt i hi) (Nat.pow_le_pow_right (by decide) h'))] at hb; cases hb
theorem Fine.mayEq (h : Fine n f) {out : List Nat} (hd : Down n f out) (i : Nat) : mayC n f out i = mayC n (closedF n f) out i := by
  rw [Bool.eq_iff_iff, mayC_iff, mayC_iff]
  refine ⟨fun ⟨h1, h2⟩ => ⟨h1, fun j hj hb => ?_⟩, fun ⟨h1, h2⟩ => ⟨h1, fun j hj hb => h2 j hj (h.dir hj hb)⟩⟩
  have hr := (closedF_rch h.lt hj).1 hb
  clear hb
  induction hr with
  | one hb => exact h2 _ hj hb
  | step hb _ ih => exact hd _ (ih ⟨h1, h2⟩ h1 h2 (h.bitlt hj hb)) _ hj hb
theorem Down.snoc {out : List Nat} {i : Nat} (hd : Down n f out) (hm : mayC n f out i = true) : Down n f (out ++ [i]) := by
  intro k hk j hj hb
  rcases List.mem_append.1 hk with hk | hk
  · exact List.mem_append.2 (.inl (hd k hk j hj hb))
  · simp only [List.mem_singleton] at hk
    subst hk
    exact List.mem_append.2 (.inl (((mayC_iff _ _ _).1 hm).2 j hj hb))
theorem Fine.growEq (h : Fine n f) : ∀ m out, Down n f out → grow n f m out = grow n (closedF n f) m out
  | 0, _, _ => rfl
  | m + 1, out, hd => by
    have e : mayC n f out = mayC n (closedF n f) out := funext (h.mayEq hd)
    simp only [grow]
    rw [← e]
    split
    · rename_i i hi
      exact h.growEq m _ (hd.snoc (by
        have := List.find?_some hi
        simpa using this))
    · rfl
theorem Down.nil : Down n f [] := fun i hi => by simp at hi
theorem Fine.leastEq (h : Fine n f) : leastL n f = leastL n (closedF n f) := h.growEq n [] Down.nil
theorem Fine.cntEq (h : Fine n f) : ∀ m out, Down n f out → cntO n f m out = cntO n (closedF n f) m out
  | 0, _, _ => rfl
  | m + 1, out, hd => by
    simp only [cntO]
    congr 1
    refine List.map_congr_left fun i _ => ?_
    rw [← h.mayEq hd i]
    split
    · rename_i hm
      exact h.cntEq m _ (hd.snoc hm)
    · rfl
end

/-! the counts, over sets -/
def bmF (n : Nat) (c : Nat → Nat) : Nat → Nat → Nat
  | 0, _ => 1
  | m + 1, s => ((List.range n).map fun i => if mayS n c s i then bmF n c m (s ||| 2 ^ i) else 0).sum
theorem mayS_mask {n : Nat} {c : Nat → Nat} {out : List Nat} (hn : n ≤ 12) (hout : ∀ k ∈ out, k < n) (i : Nat) : mayS n c (maskOf out) i = mayC n c out i := by
  rw [Bool.eq_iff_iff, may_mask n c out i hn hout, mayS, Bool.and_eq_true, decide_eq_true_eq, decide_eq_true_eq]
theorem cnt_mask {n : Nat} {c : Nat → Nat} (hn : n ≤ 12) : ∀ m out, (∀ k ∈ out, k < n) → cntO n c m out = bmF n c m (maskOf out)
  | 0, _, _ => rfl
  | m + 1, out, hout => by
    simp only [cntO, bmF]
    congr 1
    refine List.map_congr_left fun i hi => ?_
    rw [mayS_mask hn hout i]
    split
    · rw [cnt_mask hn m (out ++ [i]) (fun k hk => by
        rcases List.mem_append.1 hk with h | h
        · exact hout k h
        · simp only [List.mem_singleton] at h; subst h; simpa using hi), maskOf_snoc]
    · rfl
def cardTo (s : Nat) : Nat → Nat
  | 0 => 0
  | k + 1 => cardTo s k + if s.testBit k then 1 else 0
theorem cardTo_le (s : Nat) : ∀ k, cardTo s k ≤ k
  | 0 => Nat.le_refl _
  | k + 1 => by have := cardTo_le s k; simp only [cardTo]; split <;> omega
theorem cardTo_far {s i : Nat} : ∀ k, k ≤ i → cardTo (s ||| 2 ^ i) k = cardTo s k
  | 0, _ => rfl
  | k + 1, h => by
    simp only [cardTo, cardTo_far (s := s) (i := i) k (by omega), Nat.testBit_or, Nat.testBit_two_pow]
    have : ¬ i = k := by omega
    simp [this]
theorem cardTo_new {s i : Nat} (hb : s.testBit i = false) : ∀ k, i < k → cardTo (s ||| 2 ^ i) k = cardTo s k + 1
  | 0, h => by omega
  | k + 1, h => by
    simp only [cardTo, Nat.testBit_or, Nat.testBit_two_pow]
    by_cases e : i = k
    · subst e
      rw [cardTo_far i (Nat.le_refl _)]
      simp [hb]
    · rw [cardTo_new hb k (by omega)]
      have : decide (i = k) = false := by simpa using e
      rw [this, Bool.or_false]
      omega
theorem cardTo_full {s : Nat} : ∀ k, cardTo s k = k → ∀ i, i < k → s.testBit i = true
  | 0, _, i, hi => by omega
  | k + 1, h, i, hi => by
    have hle := cardTo_le s k
    simp only [cardTo] at h
    by_cases hb : s.testBit k = true
    · rw [if_pos hb] at h
      by_cases e : i = k
      · subst e; exact hb
      · exact cardTo_full k (by omega) i (by omega)
    · rw [if_neg hb] at h; omega
theorem cardTo_top (n : Nat) : ∀ k, k ≤ n → cardTo (2 ^ n - 1) k = k
  | 0, _ => rfl
  | k + 1, h => by
    simp only [cardTo, cardTo_top n k (by omega), Nat.testBit_two_pow_sub_one]
    have : k < n := by omega
    simp [this]
theorem cardTo_zero : ∀ k, cardTo 0 k = 0
  | 0 => rfl
  | k + 1 => by simp [cardTo, cardTo_zero k]
theorem top_of_full {n s : Nat} (hs : s < 2 ^ n) (h : ∀ i, i < n → s.testBit i = true) : s = 2 ^ n - 1 := by
  apply Nat.eq_of_testBit_eq
  intro i
  rw [Nat.testBit_two_pow_sub_one]
  by_cases hi : i < n
  · simp [hi, h i hi]
  · have : s.testBit i = false := Nat.testBit_lt_two_pow (Nat.lt_of_lt_of_le hs (Nat.pow_le_pow_right (by decide) (by omega)))
    simp [this, hi]
theorem mayS_bit {n : Nat} {c : Nat → Nat} {s i : Nat} (h : mayS n c s i = true) : s.testBit i = false := by
  simp only [mayS, Bool.and_eq_true, decide_eq_true_eq] at h
  exact (bit_zero s i).1 h.1
theorem or_gt {s i : Nat} (hb : s.testBit i = false) : s < s ||| 2 ^ i := by
  have h1 : s ≤ s ||| 2 ^ i := Nat.left_le_or
  have h2 : s ≠ s ||| 2 ^ i := fun e => by
    have : (s ||| 2 ^ i).testBit i = true := by simp [Nat.testBit_or, Nat.testBit_two_pow]
    rw [← e, hb] at this; cases this
  omega
/-- what is still to come, of all sets from a on -/
def phi (B : Nat → Nat) (ls : List Nat) : Nat → Nat → Nat
  | 0, _ => 0
  | m + 1, a => ls.getD a 0 * B a + phi B ls m (a + 1)
theorem phi_far (B : Nat → Nat) (ls : List Nat) (k v : Nat) : ∀ m a, k < a → phi B (ls.set k v) m a = phi B ls m a
  | 0, _, _ => rfl
  | m + 1, a, h => by
    simp only [phi, phi_far B ls k v m (a + 1) (by omega)]
    congr 2
    simp only [List.getD_eq_getElem?_getD]
    rw [List.getElem?_set_ne (by omega)]
theorem phi_set (B : Nat → Nat) (ls : List Nat) (k x : Nat) (hk : k < ls.length) : ∀ m a, a ≤ k → k < a + m → phi B (ls.set k (ls.getD k 0 + x)) m a = phi B ls m a + x * B k
  | 0, a, h1, h2 => by omega
  | m + 1, a, h1, h2 => by
    simp only [phi]
    by_cases e : a = k
    · subst e
      rw [phi_far B ls a _ m (a + 1) (by omega)]
      have : (ls.set a (ls.getD a 0 + x)).getD a 0 = ls.getD a 0 + x := by
        simp [List.getD_eq_getElem?_getD, hk]
      rw [this, Nat.add_mul]
      omega
    · rw [phi_set B ls k x hk m (a + 1) (by omega) (by omega)]
      have : (ls.set k (ls.getD k 0 + x)).getD a 0 = ls.getD a 0 := by
        simp only [List.getD_eq_getElem?_getD]
        rw [List.getElem?_set_ne (by omega)]
      rw [this]
      omega
def bF (n : Nat) (c : Nat → Nat) (s : Nat) : Nat := bmF n c (n - cardTo s n) s
def nextTo (n : Nat) (c : Nat → Nat) (s i : Nat) : Nat := ((List.range i).map fun i => if mayS n c s i then bF n c (s ||| 2 ^ i) else 0).sum
theorem bF_next {n : Nat} {c : Nat → Nat} {s : Nat} (h : cardTo s n < n) : bF n c s = nextTo n c s n := by
  obtain ⟨m, hm⟩ : ∃ m, n - cardTo s n = m + 1 := ⟨n - cardTo s n - 1, by omega⟩
  unfold bF nextTo
  rw [hm, bmF]
  congr 1
  refine List.map_congr_left fun i hi => ?_
  split
  · rename_i hs
    unfold bF
    rw [cardTo_new (mayS_bit hs) n (by simpa using hi), show n - (cardTo s n + 1) = m by omega]
  · rfl
theorem cntIn_phi {n : Nat} {c : Nat → Nat} {s : Nat} (hs : s < 2 ^ n) (ls : List Nat) (hl : ls.length = 2 ^ n) : ∀ i, i ≤ n →
    (cntIn n c s i ls).getD s 0 = ls.getD s 0 ∧ phi (bF n c) (cntIn n c s i ls) (2 ^ n - (s + 1)) (s + 1) = phi (bF n c) ls (2 ^ n - (s + 1)) (s + 1) + ls.getD s 0 * nextTo n c s i
  | 0, _ => by simp [cntIn, nextTo]
  | i + 1, h => by
    obtain ⟨h1, h2⟩ := cntIn_phi hs ls hl i (by omega)
    have hlen := cntIn_len n c s ls i
    simp only [cntIn, cntStep]
    have hn : nextTo n c s (i + 1) = nextTo n c s i + if mayS n c s i then bF n c (s ||| 2 ^ i) else 0 := by simp [nextTo, List.range_succ]
    rw [hn]
    split
    · rename_i hm
      have hgt := or_gt (mayS_bit hm)
      have hlt : s ||| 2 ^ i < 2 ^ n := Nat.or_lt_two_pow hs (Nat.pow_lt_pow_right (by omega) (by omega))
      refine ⟨?_, ?_⟩
      · rw [← h1]
        simp only [List.getD_eq_getElem?_getD]
        rw [List.getElem?_set_ne (by omega)]
      · rw [phi_set _ _ _ _ (by omega) _ _ (by omega) (by omega), h2, h1, Nat.mul_add]
        omega
    · exact ⟨h1, by rw [h2]; simp⟩
theorem cntOut_phi {n : Nat} {c : Nat → Nat} : ∀ s, s < 2 ^ n → phi (bF n c) (cntOut n c s) (2 ^ n - s) s = bF n c 0
  | 0, _ => by
    have hp : 0 < 2 ^ n := Nat.two_pow_pos n
    obtain ⟨m, hm⟩ : ∃ m, 2 ^ n = m + 1 := ⟨2 ^ n - 1, by omega⟩
    have hz : ∀ m a, phi (bF n c) (List.replicate (2 ^ n) 0) m a = 0 := by
      intro m
      induction m with
      | zero => intro a; rfl
      | succ m ih =>
        intro a
        simp only [phi, ih]
        have : (List.replicate (2 ^ n) 0).getD a 0 = 0 := by
          simp only [List.getD_eq_getElem?_getD, List.getElem?_replicate]
          split <;> rfl
        rw [this, Nat.zero_mul]
    have : phi (bF n c) ((List.replicate (2 ^ n) 0).set 0 ((List.replicate (2 ^ n) 0).getD 0 0 + 1)) (2 ^ n) 0 = _ := phi_set (bF n c) (List.replicate (2 ^ n) 0) 0 1 (by simpa using hp) (2 ^ n) 0 (Nat.le_refl _) (by omega)
    rw [hz] at this
    have e0 : (List.replicate (2 ^ n) 0).getD 0 0 = 0 := by
      simp only [List.getD_eq_getElem?_getD, List.getElem?_replicate]
      split <;> rfl
    rw [e0] at this
    simpa [cntOut] using this
  | s + 1, hs => by
    have ih := cntOut_phi s (n := n) (c := c) (by omega)
    obtain ⟨h1, h2⟩ := cntIn_phi (c := c) (show s < 2 ^ n by omega) (cntOut n c s) (cntOut_len n c s) n (Nat.le_refl _)
    rw [cntOut, h2]
    rw [show 2 ^ n - s = (2 ^ n - (s + 1)) + 1 by omega, phi] at ih
    have hc : cardTo s n < n := by
      have hle := cardTo_le s n
      refine Nat.lt_of_le_of_ne hle fun e => ?_
      have := top_of_full (show s < 2 ^ n by omega) (cardTo_full n e)
      omega
    rw [← bF_next hc, Nat.add_comm]
    exact ih
theorem countF_eq (n : Nat) (c : Nat → Nat) : countF n c = bmF n c n 0 := by
  have hp : 0 < 2 ^ n := Nat.two_pow_pos n
  have h := cntOut_phi (c := c) (2 ^ n - 1) (show 2 ^ n - 1 < 2 ^ n by omega)
  rw [show 2 ^ n - (2 ^ n - 1) = 1 by omega] at h
  simp only [phi, Nat.add_zero] at h
  have hb : bF n c (2 ^ n - 1) = 1 := by
    unfold bF
    rw [cardTo_top n n (Nat.le_refl _), Nat.sub_self]; rfl
  have h0 : bF n c 0 = bmF n c n 0 := by
    unfold bF
    rw [cardTo_zero]; rfl
  rw [hb, h0, Nat.mul_one] at h
  rw [← h]
  unfold countF
  have e : 2 ^ n = (2 ^ n - 1) + 1 := by omega
  have hstep : cntOut n c (2 ^ n) = cntIn n c (2 ^ n - 1) n (cntOut n c (2 ^ n - 1)) := by
    conv => lhs; rw [e]
    rw [cntOut]
  rw [hstep]
  exact (cntIn_phi (c := c) (show 2 ^ n - 1 < 2 ^ n by omega) (cntOut n c (2 ^ n - 1)) (cntOut_len n c _) n (Nat.le_refl _)).1
theorem Fine.countEq {n : Nat} {f : Nat → Nat} (h : Fine n f) : countF n (closedF n f) = cntO n f n [] := by
  rw [countF_eq, h.cntEq n [] Down.nil, cnt_mask h.n12 n [] (by simp)]
  rfl
end Go.Proofs.Ytnbgcgpkpakicaa
