/- What the law of cuts asks, said of the vectors. No condition. -/
import Derived.Test.YtnbgcgpkpakicaaClkD
namespace Go.Proofs.Ytnbgcgpkpakicaa
open Go.RowKit

def wantSt (l : List Mk) (k m : Nat) : Nat → Nat := fun i => if l.length ≤ 12 then bitsTo (fun j => (pastL l j).getD i false) (if i < m then k + 1 else k) else 0
theorem wantSt_0 (l : List Mk) : wantSt l 0 0 = fun _ => 0 := by
  funext i; unfold wantSt; rw [if_neg (show ¬ i < 0 by omega)]; split <;> rfl
theorem wantSt_yes (l : List Mk) (k m : Nat) (hl : l.length ≤ 12) (h : (pastL l k).getD m false = true) : upd (wantSt l k m) m (wantSt l k m m ||| 2 ^ k) = wantSt l k (m + 1) := by
  funext i
  unfold upd wantSt
  simp only [if_pos hl]
  by_cases e : i = m
  · subst e
    rw [if_pos rfl, if_neg (Nat.lt_irrefl i), if_pos (by omega), or_pow, bitsTo, if_pos h]
  · rw [if_neg e]
    by_cases h1 : i < m
    · rw [if_pos h1, if_pos (by omega)]
    · rw [if_neg h1, if_neg (by omega)]
theorem wantSt_no (l : List Mk) (k m : Nat) (h : ¬ l.length ≤ 12 ∨ (pastL l k).getD m false = false) : wantSt l k m = wantSt l k (m + 1) := by
  funext i
  unfold wantSt
  by_cases hl : l.length ≤ 12
  · simp only [if_pos hl]
    have h := h.resolve_left (fun e => e hl)
    by_cases e : i = m
    · subst e
      rw [if_neg (Nat.lt_irrefl i), if_pos (by omega), bitsTo, if_neg (by rw [h]; exact Bool.false_ne_true)]; rfl
    · by_cases h1 : i < m
      · rw [if_pos h1, if_pos (by omega)]
      · rw [if_neg h1, if_neg (by omega)]
  · rw [if_neg hl, if_neg hl]
theorem pastL_len (l : List Mk) (j : Nat) : (pastL l j).length = l.length := pastTo_len l j j
theorem pastL_out (l : List Mk) (j : Nat) {i : Nat} (h : l.length ≤ i) : (pastL l j).getD i false = false := by
  rw [List.getD_eq_getElem?_getD, List.getElem?_eq_none (by rw [pastL_len]; exact h)]; rfl
theorem wantSt_next (l : List Mk) (k : Nat) : wantSt l k l.length = wantSt l (k + 1) 0 := by
  funext i
  unfold wantSt
  split
  · by_cases h : i < l.length
    · rw [if_pos h, if_neg (by omega)]
    · rw [if_neg h, if_neg (by omega), bitsTo, if_neg (by rw [pastL_out l k (by omega)]; exact Bool.false_ne_true)]; rfl
  · rfl
theorem wantSt_lt (l : List Mk) (k m i : Nat) (hk : k < l.length) : wantSt l k m i < 65536 := by
  unfold wantSt
  split
  · refine bitsTo_lt_16 _ ?_
    split <;> omega
  · decide
theorem bitsTo_congr {p q : Nat → Bool} : ∀ {n : Nat}, (∀ j, j < n → p j = q j) → bitsTo p n = bitsTo q n
  | 0, _ => rfl
  | n + 1, h => by rw [bitsTo, bitsTo, bitsTo_congr (fun j hj => h j (by omega)), h n (by omega)]
theorem bitsTo_none {p : Nat → Bool} : ∀ {n : Nat}, (∀ j, j < n → p j = false) → bitsTo p n = 0
  | 0, _ => rfl
  | n + 1, h => by rw [bitsTo, bitsTo_none (fun j hj => h j (by omega)), h n (by omega)]; rfl
section
variable {l : List Mk} (hall : ∀ j, j < l.length → markAt l j = 0)
include hall
theorem befP_past {i j : Nat} (hi : i < l.length) (hj : j < l.length) : befP l i j = (pastL l j).getD i false := by
  have h1 := past_iff hall hj i
  have h2 := (vec_inv hall hi).own
  have h3 : Kn l j i ↔ (nthW l i : Int) < vOf l j (wN l i) := Iff.rfl
  rw [Bool.eq_iff_iff, h1, h3, befP]
  simp only [Bool.and_eq_true, Bool.not_eq_true', decide_eq_false_iff_not, decide_eq_true_eq, h2]
  constructor
  · rintro ⟨a, b⟩
    have := kn_le hall hj hi (h3.2 (by omega))
    omega
  · rintro ⟨a, b⟩; omega
theorem want_eq (hl : l.length ≤ 12) : wantSt l l.length 0 = befRel l := by
  funext i
  unfold wantSt befRel befSt
  rw [if_pos hl, if_neg (by omega)]
  by_cases h : i < l.length
  · rw [if_pos h]
    exact (bitsTo_congr fun j hj => befP_past hall h hj).symm
  · rw [if_neg h]
    rw [bitsTo_none (fun j hj => pastL_out l j (by omega))]
    split <;> rfl
def goodAt (l : List Mk) (es : List Int) (j : Nat) : Prop := (nthW l j : Int) < es.getD (wN l j) 0 → ∀ i, i < l.length → (pastL l j).getD i false = true → (nthW l i : Int) < es.getD (wN l i) 0
theorem cut_good {es : List Int} (hes : endsOk l es) {j : Nat} (hj : j < l.length) : cutAt l es j ↔ goodAt l es j := by
  have V := vec_inv hall hj
  have hw := fun i hi => (who_ok hall (i := i) hi).1
  unfold cutAt goodAt
  rw [V.own]
  constructor
  · intro h h1 i hi hp
    obtain ⟨hij, hk⟩ := (past_iff hall hj i).1 hp
    have := h (by omega) (wN l i) (hw i hi)
    unfold Kn at hk
    omega
  · intro h h1 p hp
    refine Decidable.byContradiction fun hn => ?_
    have hE := hes.2 p hp
    unfold endOk at hE
    have hr := (V.rng p hp).2
    obtain ⟨i, hi, hwi, hnth⟩ := cntW_find l p (es.getD p 0).toNat (j + 1) (by omega)
    have hkn : Kn l j i := by unfold Kn; rw [hwi, hnth]; omega
    by_cases e : i = j
    · subst e
      rw [hwi] at h1; omega
    · have := h (by omega) i (by omega) ((past_iff hall hj i).2 ⟨by omega, hkn⟩)
      rw [hwi, hnth] at this
      omega
theorem cutOk_good {es : List Int} (hes : endsOk l es) : cutOk l es ↔ ∀ j, j < l.length → goodAt l es j := by
  unfold cutOk
  exact ⟨fun h j hj => (cut_good hall hes hj).1 (h j hj), fun h j hj => (cut_good hall hes hj).2 (h j hj)⟩
end
theorem marksE_zero {l : List Mk} (h : (marksE l).2 = 0) : l.length ≤ 200 ∧ ∀ j, j < l.length → markAt l j = 0 := by
  by_cases h200 : 200 < l.length
  · rw [marksE_long h200] at h; cases h
  · refine ⟨by omega, ?_⟩
    rcases marks_cases l with hall | ⟨k, hk, hno, hb⟩
    · exact hall
    · rw [marksE_at h200 hk hno hb] at h; exact absurd h hb
/-- how many of each -/
def haveL (l : List Mk) (k : Nat) : List Int := (List.range 8).map (cntF l k)
theorem haveL_len (l : List Mk) (k : Nat) : (haveL l k).length = 8 := by simp [haveL]
theorem haveL_at (l : List Mk) (k p : Nat) (h : p < (haveL l k).length) : (haveL l k)[p] = (cntW l k p : Nat) := by simp [haveL, cntF]
theorem haveL_0 (l : List Mk) : haveL l 0 = List.replicate 8 0 := by rw [haveL, cntF_0]; rfl
theorem haveL_next (l : List Mk) (k : Nat) (h8 : wN l k < 8) : (haveL l k).set (wN l k) ((cntW l k (wN l k) : Nat) + 1) = haveL l (k + 1) := by
  apply List.ext_getElem (by simp [haveL])
  intro p h1 h2
  rw [List.getElem_set, haveL_at, haveL_at, cntW]
  by_cases e : wN l k = p
  · subst e; rw [if_pos rfl, if_pos rfl]; rfl
  · rw [if_neg e, if_neg e]; rfl
/-- which one of its own -/
def nthL (l : List Mk) (k : Nat) : List Int := (List.range l.length).map fun i => if i < k then (nthW l i : Int) else 0
theorem nthL_len (l : List Mk) (k : Nat) : (nthL l k).length = l.length := by simp [nthL]
theorem nthL_at (l : List Mk) (k p : Nat) (h : p < (nthL l k).length) : (nthL l k)[p] = if p < k then (nthW l p : Int) else 0 := by simp [nthL]
theorem nthL_0 (l : List Mk) : nthL l 0 = List.replicate l.length 0 := by
  apply List.ext_getElem (by simp [nthL])
  intro p h1 h2
  rw [nthL_at, if_neg (by omega)]; simp
theorem nthL_next (l : List Mk) (k : Nat) : (nthL l k).set k (cntW l k (wN l k) : Nat) = nthL l (k + 1) := by
  apply List.ext_getElem (by simp [nthL])
  intro p h1 h2
  rw [List.getElem_set, nthL_at, nthL_at]
  by_cases e : k = p
  · subst e; rw [if_pos rfl, if_pos (by omega)]; rfl
  · rw [if_neg e]
    by_cases h : p < k
    · rw [if_pos h, if_pos (by omega)]
    · rw [if_neg h, if_neg (by omega)]
set_option maxRecDepth 100000 in
theorem wrongErr_any (b : Bool) (w : World) : Calls Try.prog 32 #[.bool b] w fun e w' => e = .returned (.int .i64 (if b then 1 else 0)) ∧ Below w.heap.size w w' := by
  refine calls_T (S := []) [] Try.func32 rfl Try.ntmps32 (by simp) (Mem.nil _) ?_
  repeat' (first | first | with_reducible apply T_seq | with_reducible apply T_region | with_reducible apply TL_nil | with_reducible apply At_then | with_reducible apply T_block | with_reducible apply At_block | with_reducible apply T_skip | with_reducible apply T_exit | with_reducible apply At_then_exit | with_reducible apply At_block_exit | ((with_reducible apply At_block_past); exact rfl) | with_reducible apply T_ret | with_reducible apply At_then_ret | with_reducible apply At_block_ret | with_reducible apply TD_nil | with_reducible apply TD_fork | ((with_reducible apply TL_q); exact QS.auto; exact rfl) | ((with_reducible apply TL_e); exact ES.auto; exact rfl; (first | (rintro _ _ ⟨rfl, rfl⟩) | (rintro _ _ ⟨g, rfl, rfl⟩) | (rintro _ _ ⟨A', c', rfl, rfl⟩))) | (first | ((with_reducible apply TL_yes); exact rfl; exact rfl; (with_reducible exact rfl)) | ((with_reducible apply TL_no); exact rfl; exact rfl; (first | with_reducible exact Bool.not_true.symm | with_reducible exact Bool.not_false.symm); exact rfl) | ((with_reducible apply TL_no_undef); exact rfl; exact rfl; exact rfl) | (((with_reducible apply TL_guard); exact rfl; exact rfl; (fail_if_success (with_reducible refine imp_lit1 ?_)); (fail_if_success (with_reducible refine imp_lit0))) <;> intro h <;> (try (repeat (first | with_reducible (replace h := of_decide_eq_true h) | with_reducible (replace h := of_decide_eq_false h) | with_reducible (replace h := bnt h) | with_reducible (replace h := bnf h) | with_reducible (replace h := Int.not_lt.mp h) | with_reducible (replace h := Int.not_le.mp h) | with_reducible (replace h := band_dec h) | with_reducible (replace h := band_decF h) | with_reducible (replace h := bor_dec h) | with_reducible (replace h := bor_decF h)))) <;> (try (exfalso; first | contradiction | omega))) | (((with_reducible apply TD_guard); exact rfl; exact rfl; (fail_if_success (with_reducible refine imp_lit1 ?_)); (fail_if_success (with_reducible refine imp_lit0))) <;> intro h <;> (try (repeat (first | with_reducible (replace h := of_decide_eq_true h) | with_reducible (replace h := of_decide_eq_false h) | with_reducible (replace h := bnt h) | with_reducible (replace h := bnf h) | with_reducible (replace h := Int.not_lt.mp h) | with_reducible (replace h := Int.not_le.mp h) | with_reducible (replace h := band_dec h) | with_reducible (replace h := band_decF h) | with_reducible (replace h := bor_dec h) | with_reducible (replace h := bor_decF h)))) <;> (try (exfalso; first | contradiction | omega)))) | (((with_reducible apply T_cond); exact rfl) <;> intro h <;> (try (repeat (first | with_reducible (replace h := of_decide_eq_true h) | with_reducible (replace h := of_decide_eq_false h) | with_reducible (replace h := bnt h) | with_reducible (replace h := bnf h) | with_reducible (replace h := Int.not_lt.mp h) | with_reducible (replace h := Int.not_le.mp h) | with_reducible (replace h := band_dec h) | with_reducible (replace h := band_decF h) | with_reducible (replace h := bor_dec h) | with_reducible (replace h := bor_decF h)))) <;> (try (exfalso; first | contradiction | omega))) | fail)
  all_goals
    (refine At_ret Try.results32 rfl (fun w' hw => ?_))
    exact ⟨by first | rfl | (subst_vars; rfl) | simp_all [resVal], hw.below0 rfl⟩
end Go.Proofs.Ytnbgcgpkpakicaa
