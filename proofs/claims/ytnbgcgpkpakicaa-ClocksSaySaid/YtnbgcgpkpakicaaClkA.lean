/- clocks.knows: what it computes, and what is in the past. -/
import Derived.Test.YtnbgcgpkpakicaaClk9
namespace Go.Proofs.Ytnbgcgpkpakicaa
open Go.RowKit

def zV : Nat → Int := fun _ => 0
def vecN (l : List Mk) (out last : List (Nat → Int)) (x : Mk) : Nat → Int :=
  updI (if x.kind = 2 then joinTo (last.getD x.who.toNat zV) (out.getD (srcN l x) zV) 8 else last.getD x.who.toNat zV) x.who.toNat
    ((if x.kind = 2 then joinTo (last.getD x.who.toNat zV) (out.getD (srcN l x) zV) 8 else last.getD x.who.toNat zV) x.who.toNat + 1)
def vecSt (l : List Mk) : Nat → List (Nat → Int) × List (Nat → Int)
  | 0 => (List.replicate l.length zV, List.replicate 8 zV)
  | k + 1 => ((vecSt l k).1.set k (vecN l (vecSt l k).1 (vecSt l k).2 (l.getD k default)), (vecSt l k).2.set (l.getD k default).who.toNat (vecN l (vecSt l k).1 (vecSt l k).2 (l.getD k default)))
def vOf (l : List Mk) (j : Nat) : Nat → Int := vecN l (vecSt l j).1 (vecSt l j).2 (l.getD j default)
theorem vecSt_len (l : List Mk) : ∀ k, (vecSt l k).1.length = l.length ∧ (vecSt l k).2.length = 8
  | 0 => by simp [vecSt]
  | k + 1 => by have := vecSt_len l k; simp [vecSt, this.1, this.2]
theorem getD_set {α : Type} (ls : List α) (i j : Nat) (v z : α) (hi : i < ls.length) : (ls.set i v).getD j z = if j = i then v else ls.getD j z := by
  simp only [List.getD_eq_getElem?_getD, List.getElem?_set]
  by_cases e : i = j
  · subst e; simp [hi]
  · rw [if_neg e, if_neg (fun h => e h.symm)]
theorem vecSt_out {l : List Mk} : ∀ {k j : Nat}, j < k → k ≤ l.length → (vecSt l k).1.getD j zV = vOf l j
  | 0, _, h, _ => by omega
  | k + 1, j, h, hk => by
    rw [vecSt]; dsimp only
    rw [getD_set _ _ _ _ _ (by rw [(vecSt_len l k).1]; omega)]
    by_cases e : j = k
    · rw [if_pos e, e]; rfl
    · rw [if_neg e]; exact vecSt_out (by omega) (by omega)
/-- whose mark -/
def wN (l : List Mk) (i : Nat) : Nat := (l.getD i default).who.toNat
def cntW (l : List Mk) : Nat → Nat → Nat
  | 0, _ => 0
  | k + 1, p => cntW l k p + if wN l k = p then 1 else 0
def nthW (l : List Mk) (i : Nat) : Nat := cntW l i (wN l i)
theorem cntW_mono (l : List Mk) (p : Nat) {a b : Nat} (h : a ≤ b) : cntW l a p ≤ cntW l b p := by
  induction b with
  | zero => obtain rfl : a = 0 := by omega
            exact Nat.le_refl _
  | succ b ih =>
    by_cases e : a = b + 1
    · subst e; exact Nat.le_refl _
    · have := ih (by omega)
      rw [cntW]; omega
theorem cntW_lt (l : List Mk) {i k : Nat} (h : i < k) : nthW l i < cntW l k (wN l i) := by
  have h1 := cntW_mono l (wN l i) (show i + 1 ≤ k by omega)
  rw [cntW, if_pos rfl] at h1
  unfold nthW; omega
theorem nthW_inj {l : List Mk} {i k : Nat} (hw : wN l i = wN l k) (h : nthW l i = nthW l k) : i = k := by
  rcases Nat.lt_trichotomy i k with e | e | e
  · have := cntW_lt l e
    rw [hw] at this
    have e2 : nthW l k = cntW l k (wN l k) := rfl
    omega
  · exact e
  · have := cntW_lt l e
    rw [← hw] at this
    have e2 : nthW l i = cntW l i (wN l i) := rfl
    omega
theorem cntW_find (l : List Mk) (p e : Nat) : ∀ n, e < cntW l n p → ∃ i, i < n ∧ wN l i = p ∧ nthW l i = e
  | 0, h => by simp [cntW] at h
  | n + 1, h => by
    rw [cntW] at h
    by_cases h1 : e < cntW l n p
    · obtain ⟨i, a, b, c⟩ := cntW_find l p e n h1
      exact ⟨i, by omega, b, c⟩
    · by_cases h2 : wN l n = p
      · rw [if_pos h2] at h
        exact ⟨n, by omega, h2, by unfold nthW; rw [h2]; omega⟩
      · rw [if_neg h2] at h; omega
/-- the last one of p's -/
theorem cntW_last (l : List Mk) (p : Nat) : ∀ n, (cntW l n p = 0 ∧ ∀ i, i < n → wN l i ≠ p) ∨ ∃ i, i < n ∧ wN l i = p ∧ (∀ i', i < i' → i' < n → wN l i' ≠ p) ∧ cntW l (i + 1) p = cntW l n p
  | 0 => .inl ⟨rfl, fun i h => by omega⟩
  | n + 1 => by
    by_cases h2 : wN l n = p
    · exact .inr ⟨n, by omega, h2, fun i' h h' => by omega, rfl⟩
    · rw [cntW, if_neg h2]
      rcases cntW_last l p n with ⟨h0, h1⟩ | ⟨i, a, b, c, d⟩
      · refine .inl ⟨by omega, fun i hi => ?_⟩
        by_cases e : i = n
        · rw [e]; exact h2
        · exact h1 i (by omega)
      · refine .inr ⟨i, by omega, b, fun i' h h' => ?_, by omega⟩
        by_cases e : i' = n
        · rw [e]; exact h2
        · exact c i' h (by omega)
theorem vecSt_last {l : List Mk} (hw8 : ∀ i, i < l.length → wN l i < 8) (p : Nat) : ∀ k, k ≤ l.length →
    ((∀ i, i < k → wN l i ≠ p) → (vecSt l k).2.getD p zV = zV) ∧ ∀ i, i < k → wN l i = p → (∀ i', i < i' → i' < k → wN l i' ≠ p) → (vecSt l k).2.getD p zV = vOf l i
  | 0, _ => ⟨fun _ => by
      simp only [vecSt, List.getD_eq_getElem?_getD, List.getElem?_replicate]; split <;> rfl, fun i h => by omega⟩
  | k + 1, hk => by
    have ih := vecSt_last hw8 p k (by omega)
    have h8 := hw8 k (by omega)
    have e : (vecSt l (k + 1)).2.getD p zV = if p = wN l k then vOf l k else (vecSt l k).2.getD p zV := by
      rw [vecSt]; dsimp only
      rw [getD_set _ _ _ _ _ (by rw [(vecSt_len l k).2]; exact h8)]
      rfl
    rw [e]
    refine ⟨fun h => ?_, fun i hi h1 h2 => ?_⟩
    · rw [if_neg (fun e => h k (by omega) e.symm)]
      exact ih.1 fun i hi => h i (by omega)
    · by_cases ei : i = k
      · subst ei; rw [if_pos h1.symm]
      · rw [if_neg (fun e => h2 k (by omega) (by omega) e.symm)]
        exact ih.2 i (by omega) h1 fun i' a b => h2 i' a (by omega)
/-- just ahead of j: the last one of the same, and the sending of what is got -/
def Dir1 (l : List Mk) (d j : Nat) : Prop := d < j ∧ ((wN l d = wN l j ∧ ∀ i, d < i → i < j → wN l i ≠ wN l j) ∨ ((l.getD j default).kind = 2 ∧ d = srcN l (l.getD j default)))
/-- is i known at j -/
def Kn (l : List Mk) (j i : Nat) : Prop := (nthW l i : Int) < vOf l j (wN l i)

section
variable {l : List Mk} (hall : ∀ j, j < l.length → markAt l j = 0)
include hall
theorem who_ok {i : Nat} (hi : i < l.length) : wN l i < 8 ∧ ((wN l i : Nat) : Int) = (l.getD i default).who := by
  obtain ⟨_, _, hb⟩ := markAt_inv (hall i hi)
  unfold wN
  unfold markBad at hb
  omega
theorem who_iff {i j : Nat} (hi : i < l.length) (hj : j < l.length) : (l.getD i default).who = (l.getD j default).who ↔ wN l i = wN l j := by
  have := (who_ok hall hi).2
  have := (who_ok hall hj).2
  omega
theorem send_uniq {i k : Nat} (hi : i < l.length) (hk : k < l.length) (h1 : (l.getD i default).kind = 1) (h2 : (l.getD k default).kind = 1) (he : (l.getD i default).letter = (l.getD k default).letter) : i = k := by
  have key : ∀ a b, a < b → b < l.length → (l.getD a default).kind = 1 → sentN (l.take a) < sentN (l.take b) := by
    intro a b hab hb ha
    induction b with
    | zero => omega
    | succ b ih =>
      have e := sentN_succ (l := l) (q := b) (by omega)
      by_cases h : a = b
      · subst h
        have hg : l.getD a default = l[a]'(by omega) := by rw [List.getD_eq_getElem?_getD, List.getElem?_eq_getElem (by omega)]; rfl
        rw [hg] at ha
        rw [e, if_pos ha]; omega
      · have := ih (by omega) (by omega)
        rw [e]; omega
  have a1 := (markAt_inv (hall i hi)).1 h1
  have a2 := (markAt_inv (hall k hk)).1 h2
  rcases Nat.lt_trichotomy i k with e | e | e
  · have := key i k e hk h1; omega
  · exact e
  · have := key k i e hi h2; omega
theorem src_ok {j : Nat} (hj : j < l.length) (h2 : (l.getD j default).kind = 2) : srcN l (l.getD j default) < j ∧ (l.getD (srcN l (l.getD j default)) default).kind = 1 ∧ (l.getD (srcN l (l.getD j default)) default).letter = (l.getD j default).letter := by
  have hw := ((markAt_inv (hall j hj)).2.1 h2).1
  have I := let_inv j (by omega) (fun i hi => hall i (by omega))
  have I' := let_inv l.length (Nat.le_refl _) hall
  rw [← I.was] at hw
  obtain ⟨i, hi⟩ := Option.isSome_iff_exists.1 hw
  obtain ⟨p1, p2, p3, p4⟩ := sent_at j (by omega) _ _ hi
  have hw' : (lookM (sentM l l.length) (l.getD j default).letter).isSome = true := by
    rw [I'.rng]
    have := (I.rng _).1 hw
    have hm : ∀ a b, a ≤ b → b ≤ l.length → sentN (l.take a) ≤ sentN (l.take b) := by
      intro a b hab hb
      induction b with
      | zero => obtain rfl : a = 0 := by omega
                exact Nat.le_refl _
      | succ b ih =>
        by_cases h : a = b + 1
        · subst h; exact Nat.le_refl _
        · have := ih (by omega) (by omega)
          rw [sentN_succ (by omega)]; omega
    have := hm j l.length (by omega) (Nat.le_refl _)
    omega
  obtain ⟨i', hi'⟩ := Option.isSome_iff_exists.1 hw'
  obtain ⟨q1, q2, q3, q4⟩ := sent_at l.length (Nat.le_refl _) _ _ hi'
  have : i'.toNat = i.toNat := send_uniq hall (by omega) (by omega) q3 p3 (by rw [q4, p4])
  have e : srcN l (l.getD j default) = i.toNat := by unfold srcN; rw [hi', Option.getD_some, this]
  rw [e]
  exact ⟨by omega, p3, p4⟩
structure VecI (l : List Mk) (j : Nat) : Prop where
  own : vOf l j (wN l j) = nthW l j + 1
  rng : ∀ p, p < 8 → 0 ≤ vOf l j p ∧ vOf l j p ≤ cntW l (j + 1) p
  mono : ∀ d, Dir1 l d j → ∀ p, p < 8 → vOf l d p ≤ vOf l j p
  known : ∀ i, i < l.length → (Kn l j i ↔ i = j ∨ ∃ d, Dir1 l d j ∧ Kn l d i)
theorem vec_inv : ∀ {j : Nat}, j < l.length → VecI l j := by
  intro j
  induction j using Nat.strongRecOn with
  | _ j ih =>
    intro hj
    have hw8 : ∀ i, i < l.length → wN l i < 8 := fun i hi => (who_ok hall hi).1
    obtain ⟨u, hu⟩ : ∃ u, (if (l.getD j default).kind = 2 then joinTo ((vecSt l j).2.getD (wN l j) zV) ((vecSt l j).1.getD (srcN l (l.getD j default)) zV) 8 else (vecSt l j).2.getD (wN l j) zV) = u := ⟨_, rfl⟩
    have hv : vOf l j = updI u (wN l j) (u (wN l j) + 1) := by rw [← hu]; rfl
    have hL := vecSt_last hw8 (wN l j) j (by omega)
    have hlast := cntW_last l (wN l j) j
    have hsrc : (l.getD j default).kind = 2 → srcN l (l.getD j default) < j ∧ (vecSt l j).1.getD (srcN l (l.getD j default)) zV = vOf l (srcN l (l.getD j default)) := fun h2 => by
      have := (src_ok hall hj h2).1
      exact ⟨this, vecSt_out this (by omega)⟩
    -- the base
    obtain ⟨b, hb⟩ : ∃ b, (vecSt l j).2.getD (wN l j) zV = b := ⟨_, rfl⟩
    rw [hb] at hu hL
    have hb3 : b = zV ∨ ∃ d, Dir1 l d j ∧ b = vOf l d := by
      rcases hlast with ⟨_, h⟩ | ⟨i, a, e, f, _⟩
      · exact .inl (hL.1 h)
      · exact .inr ⟨i, ⟨a, .inl ⟨e, f⟩⟩, hL.2 i a e f⟩
    have hb2 : ∀ d, d < j → (wN l d = wN l j ∧ ∀ i, d < i → i < j → wN l i ≠ wN l j) → b = vOf l d := fun d hd h => hL.2 d hd h.1 h.2
    have hb1 : ∀ p, p < 8 → 0 ≤ b p := by
      intro p hp
      rcases hb3 with e | ⟨d, hd, e⟩
      · rw [e]; exact Int.le_refl _
      · rw [e]; exact ((ih d hd.1 (by have := hd.1; omega)).rng p hp).1
    have hjoin : ∀ x y : Nat → Int, ∀ p, p < 8 → joinTo x y 8 p = max (x p) (y p) := fun x y p hp => by unfold joinTo; rw [if_pos hp]
    have hu1 : ∀ p, p < 8 → 0 ≤ u p := by
      intro p hp
      have := hb1 p hp
      rw [← hu]; split
      · rw [hjoin _ _ p hp]; omega
      · exact this
    have hu2 : ∀ d, Dir1 l d j → ∀ p, p < 8 → vOf l d p ≤ u p := by
      rintro d ⟨hd, h | ⟨h2, rfl⟩⟩ p hp
      · have e := hb2 d hd h
        rw [← e, ← hu]; split
        · rw [hjoin _ _ p hp]; omega
        · exact Int.le_refl _
      · rw [← hu, if_pos h2, hjoin _ _ p hp, (hsrc h2).2]; omega
    have hu3 : ∀ p, p < 8 → u p = 0 ∨ ∃ d, Dir1 l d j ∧ u p = vOf l d p := by
      intro p hp
      have hbp : b p = 0 ∨ ∃ d, Dir1 l d j ∧ b p = vOf l d p := by
        rcases hb3 with e | ⟨d, hd, e⟩
        · exact .inl (by rw [e]; rfl)
        · exact .inr ⟨d, hd, by rw [e]⟩
      rw [← hu]; split
      · rename_i h2
        rw [hjoin _ _ p hp, (hsrc h2).2]
        rcases Int.le_total (b p) (vOf l (srcN l (l.getD j default)) p) with h | h
        · rw [Int.max_eq_right h]
          exact .inr ⟨_, ⟨(hsrc h2).1, .inr ⟨h2, rfl⟩⟩, rfl⟩
        · rw [Int.max_eq_left h]; exact hbp
      · exact hbp
    have h8 := hw8 j hj
    have huj : u (wN l j) = nthW l j := by
      have hle : u (wN l j) ≤ nthW l j := by
        rcases hu3 _ h8 with e | ⟨d, hd, e⟩
        · omega
        · have h1 := ((ih d hd.1 (by have := hd.1; omega)).rng _ h8).2
          have h2 := cntW_mono l (wN l j) (show d + 1 ≤ j by have := hd.1; omega)
          unfold nthW; omega
      rcases hlast with ⟨h0, _⟩ | ⟨i, a, e, f, g⟩
      · have := hu1 _ h8
        have e0 : nthW l j = 0 := h0
        omega
      · have hd : Dir1 l i j := ⟨a, .inl ⟨e, f⟩⟩
        have h1 := hu2 i hd _ h8
        have h2 := (ih i a (by omega)).own
        rw [e] at h2
        have h3 : cntW l (i + 1) (wN l j) = cntW l i (wN l j) + 1 := by rw [cntW, if_pos e]
        have h4 : nthW l i = cntW l i (wN l j) := by unfold nthW; rw [e]
        have h5 : nthW l j = cntW l j (wN l j) := rfl
        omega
    have hvp : ∀ p, vOf l j p = if p = wN l j then (nthW l j : Int) + 1 else u p := fun p => by
      rw [hv]; unfold updI; rw [huj]
    refine ⟨by rw [hvp, if_pos rfl], fun p hp => ?_, fun d hd p hp => ?_, fun i hi => ?_⟩
    · rw [hvp]
      by_cases e : p = wN l j
      · rw [if_pos e, cntW, if_pos e.symm]
        subst e
        unfold nthW; omega
      · rw [if_neg e, cntW, if_neg (fun h => e h.symm)]
        refine ⟨hu1 p hp, ?_⟩
        rcases hu3 p hp with e | ⟨d, hd, e⟩
        · omega
        · have h1 := ((ih d hd.1 (by have := hd.1; omega)).rng _ hp).2
          have h2 := cntW_mono l p (show d + 1 ≤ j by have := hd.1; omega)
          omega
    · have := hu2 d hd p hp
      rw [hvp]
      by_cases e : p = wN l j
      · subst e; rw [if_pos rfl]; omega
      · rw [if_neg e]; exact this
    · have hi8 := hw8 i hi
      have up : ∀ {m : Int}, m = u (wN l i) → (nthW l i : Int) < m → ∃ d, Dir1 l d j ∧ Kn l d i := by
        intro m hm h
        rcases hu3 _ hi8 with e | ⟨d, hd, e⟩
        · omega
        · exact ⟨d, hd, by unfold Kn; omega⟩
      constructor
      · intro h
        unfold Kn at h
        rw [hvp] at h
        by_cases e : wN l i = wN l j
        · rw [if_pos e] at h
          by_cases e2 : nthW l i = nthW l j
          · exact .inl (nthW_inj e e2)
          · exact .inr (up rfl (by rw [e, huj]; omega))
        · rw [if_neg e] at h
          exact .inr (up rfl h)
      · rintro (rfl | ⟨d, hd, h⟩)
        · unfold Kn; rw [hvp, if_pos rfl]; omega
        · unfold Kn at h ⊢
          have h1 := hu2 d hd _ hi8
          rw [hvp]
          by_cases e : wN l i = wN l j
          · rw [if_pos e]; rw [e] at h h1; rw [e] at *; omega
          · rw [if_neg e]; omega
/-! the past -/
theorem kn_self {j : Nat} (hj : j < l.length) : Kn l j j := ((vec_inv hall hj).known j hj).2 (.inl rfl)
theorem kn_le {j i : Nat} (hj : j < l.length) (hi : i < l.length) (h : Kn l j i) : i ≤ j := by
  have h1 := ((vec_inv hall hj).rng _ (who_ok hall hi).1).2
  unfold Kn at h
  rcases Nat.lt_or_ge j i with e | e
  · have := cntW_mono l (wN l i) (show j + 1 ≤ i by omega)
    unfold nthW at h; omega
  · exact e
theorem kn_mono : ∀ {j k : Nat}, j < l.length → k < l.length → Kn l j k → ∀ p, p < 8 → vOf l k p ≤ vOf l j p := by
  intro j
  induction j using Nat.strongRecOn with
  | _ j ih =>
    intro k hj hk h p hp
    have V := vec_inv hall hj
    rcases (V.known k hk).1 h with rfl | ⟨d, hd, h'⟩
    · exact Int.le_refl _
    · have hdj := hd.1
      have h1 := ih d hdj (by omega) hk h' p hp
      have h2 := V.mono d hd p hp
      omega
theorem dir_kn {i k : Nat} (hi : i < l.length) (hk : k < l.length) (h : dirB l i k = true) : i < k ∧ Kn l k i := by
  unfold dirB at h
  simp only [Bool.and_eq_true, Bool.or_eq_true, decide_eq_true_eq] at h
  obtain ⟨hik, h | ⟨⟨h1, h2⟩, h3⟩⟩ := h
  · refine ⟨hik, ?_⟩
    have e := (who_iff hall hi hk).1 h
    have h1 := (vec_inv hall hk).own
    have h2 := cntW_lt l hik
    unfold Kn
    rw [e] at h2 ⊢
    rw [h1]
    have : nthW l k = cntW l k (wN l k) := rfl
    omega
  · refine ⟨hik, ?_⟩
    obtain ⟨s1, s2, s3⟩ := src_ok hall hk h2
    have e : i = srcN l (l.getD k default) := send_uniq hall hi (by omega) h1 s2 (by rw [h3, s3])
    refine ((vec_inv hall hk).known i hi).2 (.inr ⟨i, ⟨hik, .inr ⟨h2, e⟩⟩, kn_self hall hi⟩)
theorem dir1_dirB {d j : Nat} (hj : j < l.length) (h : Dir1 l d j) : dirB l d j = true := by
  obtain ⟨hd, h | ⟨h2, e⟩⟩ := h
  · unfold dirB
    rw [decide_eq_true hd, decide_eq_true ((who_iff hall (by omega) hj).2 h.1)]; rfl
  · obtain ⟨s1, s2, s3⟩ := src_ok hall hj h2
    rw [← e] at s2 s3
    unfold dirB
    rw [decide_eq_true hd, decide_eq_true s2, decide_eq_true h2, decide_eq_true s3]; simp
theorem kn_step : ∀ {j i : Nat}, j < l.length → i < j → Kn l j i → ∃ k, i < k ∧ k ≤ j ∧ Kn l j k ∧ dirB l i k = true := by
  intro j
  induction j using Nat.strongRecOn with
  | _ j ih =>
    intro i hj hij h
    have V := vec_inv hall hj
    rcases (V.known i (by omega)).1 h with rfl | ⟨d, hd, h'⟩
    · omega
    · have hdj := hd.1
      have hle := kn_le hall (by omega) (by omega) h'
      by_cases e : i = d
      · subst e
        exact ⟨j, hij, Nat.le_refl _, kn_self hall hj, dir1_dirB hall hj hd⟩
      · obtain ⟨k, a, b, c, f⟩ := ih d hdj (by omega) (by omega) h'
        exact ⟨k, a, by omega, (V.known k (by omega)).2 (.inr ⟨d, hd, c⟩), f⟩
theorem kn_iff {j i : Nat} (hj : j < l.length) (hij : i < j) : Kn l j i ↔ ∃ k, i < k ∧ k ≤ j ∧ Kn l j k ∧ dirB l i k = true := by
  refine ⟨kn_step hall hj hij, ?_⟩
  rintro ⟨k, a, b, c, d⟩
  have h1 := (dir_kn hall (by omega) (by omega) d).2
  have h2 := kn_mono hall hj (by omega) c _ (who_ok hall (show i < l.length by omega)).1
  unfold Kn at h1 ⊢; omega
omit hall in
theorem pIn_iff (ls : List Bool) (i j : Nat) : ∀ m, pIn l ls i j m = true ↔ dirB l i j = true ∨ ∃ q, q < m ∧ ls.getD (i + 1 + q) false = true ∧ dirB l i (i + 1 + q) = true
  | 0 => by simp [pIn]
  | m + 1 => by
    rw [pIn, Bool.or_eq_true, pIn_iff ls i j m, Bool.and_eq_true]
    constructor
    · rintro ((h | ⟨q, a, b⟩) | h)
      · exact .inl h
      · exact .inr ⟨q, by omega, b⟩
      · exact .inr ⟨m, by omega, h⟩
    · rintro (h | ⟨q, a, b⟩)
      · exact .inl (.inl h)
      · by_cases e : q = m
        · subst e; exact .inr b
        · exact .inl (.inr ⟨q, by omega, b⟩)
theorem pastTo_iff {j : Nat} (hj : j < l.length) : ∀ m, m ≤ j → ∀ i, (pastTo l j m).getD i false = true ↔ j - m ≤ i ∧ i < j ∧ Kn l j i
  | 0, _, i => by
    have : (pastTo l j 0).getD i false = false := by
      simp only [pastTo, List.getD_eq_getElem?_getD, List.getElem?_replicate]; split <;> rfl
    rw [this]; simp; omega
  | m + 1, hm, i => by
    have ih := pastTo_iff hj m (by omega)
    rw [pastTo, getD_set _ _ _ _ _ (by rw [pastTo_len]; omega)]
    by_cases e : i = j - 1 - m
    · rw [if_pos e, ← e, pIn_iff]
      constructor
      · intro h
        refine ⟨by omega, by omega, (kn_iff hall hj (by omega)).2 ?_⟩
        rcases h with h | ⟨q, a, b, c⟩
        · exact ⟨j, by omega, Nat.le_refl _, kn_self hall hj, h⟩
        · obtain ⟨b1, b2, b3⟩ := (ih _).1 b
          exact ⟨i + 1 + q, by omega, by omega, b3, c⟩
      · rintro ⟨_, h2, h3⟩
        obtain ⟨k, a, b, c, d⟩ := (kn_iff hall hj h2).1 h3
        by_cases ek : k = j
        · subst ek; exact .inl d
        · refine .inr ⟨k - (i + 1), by omega, ?_, ?_⟩
          · rw [show i + 1 + (k - (i + 1)) = k by omega]
            exact (ih k).2 ⟨by omega, by omega, c⟩
          · rw [show i + 1 + (k - (i + 1)) = k by omega]; exact d
    · rw [if_neg e, ih i]
      constructor
      · rintro ⟨a, b, c⟩; exact ⟨by omega, b, c⟩
      · rintro ⟨a, b, c⟩; exact ⟨by omega, b, c⟩
theorem past_iff {j : Nat} (hj : j < l.length) (i : Nat) : (pastL l j).getD i false = true ↔ i < j ∧ Kn l j i := by
  rw [pastL, pastTo_iff hall hj j (Nat.le_refl _)]
  constructor
  · rintro ⟨_, b, c⟩; exact ⟨b, c⟩
  · rintro ⟨b, c⟩; exact ⟨by omega, b, c⟩
end
end Go.Proofs.Ytnbgcgpkpakicaa
