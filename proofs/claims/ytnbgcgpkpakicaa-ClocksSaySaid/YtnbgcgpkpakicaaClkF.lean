/- What the law of clocks asks, said of times and vectors. No condition. -/
import Derived.Test.YtnbgcgpkpakicaaClkD
import Derived.Test.YtnbgcgpkpakicaaR
namespace Go.Proofs.Ytnbgcgpkpakicaa
open Go.RowKit

def tOf (l : List Mk) (j : Nat) : Int := timeN l (timeSt l j).1 (timeSt l j).2 (l.getD j default) + 1
theorem timeSt_out {l : List Mk} : ∀ {k j : Nat}, j < k → k ≤ l.length → (timeSt l k).1.getD j 0 = tOf l j
  | 0, _, h, _ => by omega
  | k + 1, j, h, hk => by
    rw [timeSt]; dsimp only
    rw [getD_set _ _ _ _ _ (by rw [(time_inv l k (by omega)).len]; omega)]
    by_cases e : j = k
    · rw [if_pos e, e]; rfl
    · rw [if_neg e]; exact timeSt_out (by omega) (by omega)
theorem timeSt_last {l : List Mk} (p : Nat) : ∀ k, k ≤ l.length →
    ((∀ i, i < k → wN l i ≠ p) → (timeSt l k).2 p = 0) ∧ ∀ i, i < k → wN l i = p → (∀ i', i < i' → i' < k → wN l i' ≠ p) → (timeSt l k).2 p = tOf l i
  | 0, _ => ⟨fun _ => rfl, fun i h => by omega⟩
  | k + 1, hk => by
    have ih := timeSt_last (l := l) p k (by omega)
    have e : (timeSt l (k + 1)).2 p = if p = wN l k then tOf l k else (timeSt l k).2 p := rfl
    rw [e]
    refine ⟨fun h => ?_, fun i hi h1 h2 => ?_⟩
    · rw [if_neg (fun e => h k (by omega) e.symm)]
      exact ih.1 fun i hi => h i (by omega)
    · by_cases ei : i = k
      · subst ei; rw [if_pos h1.symm]
      · rw [if_neg (fun e => h2 k (by omega) (by omega) e.symm)]
        exact ih.2 i (by omega) h1 fun i' a b => h2 i' a (by omega)
section
variable {l : List Mk} (hall : ∀ j, j < l.length → markAt l j = 0)
include hall
theorem time_dir {j : Nat} (hj : j < l.length) : (∀ d, Dir1 l d j → tOf l d + 1 ≤ tOf l j) ∧ (tOf l j = 1 ∨ ∃ d, Dir1 l d j ∧ tOf l j = tOf l d + 1) := by
  have hL := timeSt_last (l := l) (wN l j) j (by omega)
  have hlast := cntW_last l (wN l j) j
  have hI := (time_inv l j (by omega)).last (wN l j)
  obtain ⟨b, hb⟩ : ∃ b, (timeSt l j).2 (wN l j) = b := ⟨_, rfl⟩
  have hb' : (timeSt l j).2 (l.getD j default).who.toNat = b := hb
  rw [hb] at hL hI
  have hsrc : (l.getD j default).kind = 2 → srcN l (l.getD j default) < j ∧ (timeSt l j).1.getD (srcN l (l.getD j default)) 0 = tOf l (srcN l (l.getD j default)) := fun h2 => by
    have := (src_ok hall hj h2).1
    exact ⟨this, timeSt_out this (by omega)⟩
  have ht : tOf l j = (if (l.getD j default).kind = 2 then max b ((timeSt l j).1.getD (srcN l (l.getD j default)) 0) else b) + 1 := by
    unfold tOf timeN; rw [hb']
  have hb3 : b = 0 ∨ ∃ d, Dir1 l d j ∧ b = tOf l d := by
    rcases hlast with ⟨_, h⟩ | ⟨i, a, e, f, _⟩
    · exact .inl (hL.1 h)
    · exact .inr ⟨i, ⟨a, .inl ⟨e, f⟩⟩, hL.2 i a e f⟩
  have hb2 : ∀ d, d < j → (wN l d = wN l j ∧ ∀ i, d < i → i < j → wN l i ≠ wN l j) → b = tOf l d := fun d hd h => hL.2 d hd h.1 h.2
  constructor
  · rintro d ⟨hd, h | ⟨h2, rfl⟩⟩
    · have e := hb2 d hd h
      rw [ht]; split <;> omega
    · rw [ht, if_pos h2, (hsrc h2).2]; omega
  · rw [ht]
    have hbb : b + 1 = 1 ∨ ∃ d, Dir1 l d j ∧ b + 1 = tOf l d + 1 := hb3.imp (fun h => by rw [h]; rfl) (fun ⟨d, h1, h2⟩ => ⟨d, h1, by rw [h2]⟩)
    split
    · rename_i h2
      rw [(hsrc h2).2]
      rcases Int.le_total b (tOf l (srcN l (l.getD j default))) with h | h
      · rw [Int.max_eq_right h]
        exact .inr ⟨_, ⟨(hsrc h2).1, .inr ⟨h2, rfl⟩⟩, rfl⟩
      · rw [Int.max_eq_left h]; exact hbb
    · exact hbb
/-- of the same, what stands ahead is earlier -/
theorem time_same : ∀ {j i : Nat}, j < l.length → i < j → wN l i = wN l j → tOf l i + 1 ≤ tOf l j := by
  intro j
  induction j using Nat.strongRecOn with
  | _ j ih =>
    intro i hj hij hw
    rcases cntW_last l (wN l j) j with ⟨_, h⟩ | ⟨d, a, e, f, _⟩
    · exact absurd hw (h i hij)
    · have h1 := (time_dir hall hj).1 d ⟨a, .inl ⟨e, f⟩⟩
      by_cases ei : i = d
      · rw [ei]; exact h1
      · have hid : i < d := by
          rcases Nat.lt_or_ge i d with h | h
          · exact h
          · exact absurd hw (f i (by omega) hij)
        have := ih d a (by omega) hid (by rw [hw, e])
        omega
theorem time_dirB {j i : Nat} (hj : j < l.length) (h : dirB l i j = true) : tOf l i + 1 ≤ tOf l j := by
  unfold dirB at h
  simp only [Bool.and_eq_true, Bool.or_eq_true, decide_eq_true_eq] at h
  obtain ⟨hij, h | ⟨⟨h1, h2⟩, h3⟩⟩ := h
  · exact time_same hall hj hij ((who_iff hall (by omega) hj).1 h)
  · obtain ⟨s1, s2, s3⟩ := src_ok hall hj h2
    have e : i = srcN l (l.getD j default) := send_uniq hall (by omega) (by omega) h1 s2 (by rw [h3, s3])
    exact (time_dir hall hj).1 i ⟨hij, .inr ⟨h2, e⟩⟩
omit hall in
theorem tOf_pos {j : Nat} (hj : j < l.length) : 1 ≤ tOf l j := by
  have h1 := (time_inv l j (by omega)).last (l.getD j default).who.toNat
  unfold tOf timeN
  split <;> omega
/-- the greatest of those that are direct -/
def mostTo (l : List Mk) (j : Nat) : Nat → Int
  | 0 => 0
  | m + 1 => if dirB l m j = true then max (mostTo l j m) (tOf l m) else mostTo l j m
theorem mostTo_le {j : Nat} (hj : j < l.length) : ∀ m, mostTo l j m + 1 ≤ tOf l j
  | 0 => by have := tOf_pos hj; rw [mostTo]; omega
  | m + 1 => by
    have ih := mostTo_le hj m
    rw [mostTo]; split
    · rename_i h
      have := time_dirB hall hj h
      omega
    · exact ih
omit hall in
theorem mostTo_ge {j i : Nat} (h : dirB l i j = true) : ∀ m, i < m → tOf l i ≤ mostTo l j m
  | 0, hm => by omega
  | m + 1, hm => by
    rw [mostTo]
    by_cases e : i = m
    · subst e; rw [if_pos h]; omega
    · have := mostTo_ge h m (by omega)
      split <;> omega
theorem most_eq {j : Nat} (hj : j < l.length) : mostTo l j l.length + 1 = tOf l j := by
  have h1 := mostTo_le hall hj l.length
  have h0 : ∀ m, 0 ≤ mostTo l j m := by
    intro m
    induction m with
    | zero => exact Int.le_refl _
    | succ m ih => rw [mostTo]; split <;> omega
  have := h0 l.length
  rcases (time_dir hall hj).2 with h | ⟨d, hd, h⟩
  · omega
  · have := mostTo_ge (dir1_dirB hall hj hd) l.length (by have := hd.1; omega)
    omega
/-- how many of p's there are in the past -/
def wantN (l : List Mk) (j p : Nat) : Nat → Nat
  | 0 => if wN l j = p then 1 else 0
  | m + 1 => wantN l j p m + if (pastL l j).getD m false = true ∧ wN l m = p then 1 else 0
def belowN (l : List Mk) (p v : Nat) : Nat → Nat
  | 0 => 0
  | m + 1 => belowN l p v m + if wN l m = p ∧ nthW l m < v then 1 else 0
omit hall in
theorem belowN_eq (p v : Nat) : ∀ n, belowN l p v n = min v (cntW l n p)
  | 0 => by simp [belowN, cntW]
  | n + 1 => by
    rw [belowN, belowN_eq p v n, cntW]
    by_cases h : wN l n = p
    · have e : nthW l n = cntW l n p := by unfold nthW; rw [h]
      rw [if_pos h]
      by_cases h2 : nthW l n < v
      · rw [if_pos ⟨h, h2⟩]; omega
      · rw [if_neg (fun h => h2 h.2)]; omega
    · rw [if_neg h, if_neg (fun h' => h h'.1)]; omega
theorem wantN_below {j : Nat} (hj : j < l.length) (p : Nat) : ∀ m, m ≤ l.length → wantN l j p m = (if wN l j = p then 1 else 0) + belowN l p (vOf l j p).toNat (min m j)
  | 0, _ => by simp [wantN, belowN]
  | m + 1, hm => by
    rw [wantN, wantN_below hj p m (by omega)]
    have hp := past_iff hall hj m
    by_cases h : m < j
    · rw [Nat.min_eq_left (by omega), Nat.min_eq_left (by omega), belowN]
      have : ((pastL l j).getD m false = true ∧ wN l m = p) ↔ (wN l m = p ∧ nthW l m < (vOf l j p).toNat) := by
        rw [hp]
        constructor
        · rintro ⟨⟨_, a⟩, b⟩
          unfold Kn at a; rw [b] at a
          exact ⟨b, by omega⟩
        · rintro ⟨b, a⟩
          refine ⟨⟨h, ?_⟩, b⟩
          unfold Kn; rw [b]; omega
      by_cases h2 : wN l m = p ∧ nthW l m < (vOf l j p).toNat
      · rw [if_pos h2, if_pos (this.2 h2)]; omega
      · rw [if_neg h2, if_neg (fun h => h2 (this.1 h))]; omega
    · have hz : ¬ ((pastL l j).getD m false = true ∧ wN l m = p) := fun h' => h (hp.1 h'.1).1
      rw [Nat.min_eq_right (by omega), Nat.min_eq_right (by omega), if_neg hz]; omega
theorem want_vec {j : Nat} (hj : j < l.length) {p : Nat} (hp : p < 8) : (wantN l j p l.length : Int) = vOf l j p := by
  have V := vec_inv hall hj
  have hr := V.rng p hp
  rw [wantN_below hall hj p l.length (Nat.le_refl _), Nat.min_eq_right (by omega), belowN_eq]
  have hc : cntW l (j + 1) p = cntW l j p + if wN l j = p then 1 else 0 := by rw [cntW]
  by_cases h : wN l j = p
  · have ho := V.own
    have e : nthW l j = cntW l j p := by unfold nthW; rw [h]
    rw [h] at ho
    rw [if_pos h]; omega
  · rw [if_neg h] at hc ⊢; omega
end
end Go.Proofs.Ytnbgcgpkpakicaa
