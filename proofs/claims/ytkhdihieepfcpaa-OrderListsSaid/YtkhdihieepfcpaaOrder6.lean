/- alibref.Closed, aliblaw.leastOf. -/
import Derived.Test.YtkhdihieepfcpaaOrder5
namespace Go.Proofs.Ytkhdihieepfcpaa
open Go.RowKit

theorem mod_next (x j : Nat) : x % 2 ^ (j + 1) = if x.testBit j then x % 2 ^ j ||| 2 ^ j else x % 2 ^ j := by
  apply Nat.eq_of_testBit_eq
  intro i
  by_cases hb : x.testBit j = true
  · rw [if_pos hb]
    simp only [Nat.testBit_mod_two_pow, Nat.testBit_or, Nat.testBit_two_pow]
    by_cases e : j = i
    · subst e; simp [hb]
    · have : (decide (i < j + 1)) = decide (i < j) := by
        by_cases h : i < j
        · simp [h]; omega
        · have : ¬ i < j + 1 := by omega
          simp [h, this]
      simp [e, this]
  · rw [if_neg hb]
    simp only [Nat.testBit_mod_two_pow]
    by_cases e : i = j
    · subst e; simp [hb]
    · have : (decide (i < j + 1)) = decide (i < j) := by
        by_cases h : i < j
        · simp [h]; omega
        · have : ¬ i < j + 1 := by omega
          simp [h, this]
      rw [this]
theorem wOut_far (f : Nat → Nat) (n : Nat) : ∀ k r, n ≤ r → k ≤ n → wOut f n k r = f r
  | 0, r, _, _ => rfl
  | k + 1, r, h, hk => by
    show wIn (wOut f n k) k n r = f r
    have : ∀ m, m ≤ n → wIn (wOut f n k) k m r = wOut f n k r := by
      intro m
      induction m with
      | zero => intro _; rfl
      | succ m ih =>
        intro hm
        show wStep k (wIn (wOut f n k) k m) m r = _
        unfold wStep
        split
        · unfold upd; rw [if_neg (by omega)]; exact ih (by omega)
        · exact ih (by omega)
    rw [this n (Nat.le_refl _)]
    exact wOut_far f n k r h (by omega)
/-- does one come round, with the rows below i and row i up to j looked at -/
def rdF (c : Nat → Nat) (i j : Nat) : Bool := (List.range i).any (fun r => (c r).testBit r) || (decide (i < j) && (c i).testBit i)
theorem rdF_zero (c : Nat → Nat) (i : Nat) : rdF c i 0 = (List.range i).any fun r => (c r).testBit r := by simp [rdF]
theorem rdF_yes {c : Nat → Nat} {i j : Nat} (h : (c i).testBit j = true) : rdF c i (j + 1) = (rdF c i j || decide (i = j)) := by
  have hdec : decide (i < j + 1) = (decide (i < j) || decide (i = j)) := by
    rw [← Bool.decide_or]; exact decide_eq_decide.2 (by omega)
  unfold rdF
  rw [hdec]
  by_cases e : i = j
  · subst e; simp [h]
  · simp [e]
theorem rdF_no {c : Nat → Nat} {i j : Nat} (h : (c i).testBit j = false) : rdF c i (j + 1) = rdF c i j := by
  have hdec : decide (i < j + 1) = (decide (i < j) || decide (i = j)) := by
    rw [← Bool.decide_or]; exact decide_eq_decide.2 (by omega)
  unfold rdF
  rw [hdec]
  by_cases e : i = j
  · subst e; simp [h]
  · simp [e]
theorem rdF_end {c : Nat → Nat} {i n : Nat} (h : i < n) : rdF c i n = (List.range (i + 1)).any fun r => (c r).testBit r := by
  simp [rdF, h, List.range_succ]
set_option maxRecDepth 100000 in
set_option maxHeartbeats 4000000 in
theorem closedRef_any (n : Nat) (f : Nat → Nat) (w : World) (hn : n ≤ 12) (hf : ∀ i, i < n → f i < 2 ^ n) (hf0 : ∀ i, n ≤ i → i < 12 → f i = 0) :
    Calls Try.prog 22 #[.agg (relCells n f)] w fun e w' => e = .returned (.tuple #[.agg (relCells n (closedF n f)), .bool (isCyc n (closedF n f))]) ∧ Below w.heap.size w w' := by
  refine calls_T (S := []) [] Try.func22 rfl Try.ntmps22 (by simp) (Mem.nil _) ?_
  repeat' (first | first | with_reducible apply T_seq | with_reducible apply T_region | with_reducible apply TL_nil | with_reducible apply At_then | with_reducible apply T_block | with_reducible apply At_block | with_reducible apply T_skip | with_reducible apply T_exit | with_reducible apply At_then_exit | with_reducible apply At_block_exit | ((with_reducible apply At_block_past); exact rfl) | with_reducible apply T_ret | with_reducible apply At_then_ret | with_reducible apply At_block_ret | with_reducible apply TD_nil | with_reducible apply TD_fork | ((with_reducible apply TL_q); exact QS.auto; exact rfl) | ((with_reducible apply TL_e); exact ES.auto; exact rfl; (first | (rintro _ _ ⟨rfl, rfl⟩) | (rintro _ _ ⟨g, rfl, rfl⟩) | (rintro _ _ ⟨A', c', rfl, rfl⟩))) | (first | ((with_reducible apply TL_yes); exact rfl; exact rfl; (with_reducible exact rfl)) | ((with_reducible apply TL_no); exact rfl; exact rfl; (first | with_reducible exact Bool.not_true.symm | with_reducible exact Bool.not_false.symm); exact rfl) | ((with_reducible apply TL_no_undef); exact rfl; exact rfl; exact rfl) | (((with_reducible apply TL_guard); exact rfl; exact rfl; (fail_if_success (with_reducible refine imp_lit1 ?_)); (fail_if_success (with_reducible refine imp_lit0))) <;> intro h <;> (try (repeat (first | with_reducible (replace h := of_decide_eq_true h) | with_reducible (replace h := of_decide_eq_false h) | with_reducible (replace h := bnt h) | with_reducible (replace h := bnf h) | with_reducible (replace h := Int.not_lt.mp h) | with_reducible (replace h := Int.not_le.mp h) | with_reducible (replace h := band_dec h) | with_reducible (replace h := band_decF h) | with_reducible (replace h := bor_dec h) | with_reducible (replace h := bor_decF h)))) <;> (try (exfalso; first | contradiction | omega))) | (((with_reducible apply TD_guard); exact rfl; exact rfl; (fail_if_success (with_reducible refine imp_lit1 ?_)); (fail_if_success (with_reducible refine imp_lit0))) <;> intro h <;> (try (repeat (first | with_reducible (replace h := of_decide_eq_true h) | with_reducible (replace h := of_decide_eq_false h) | with_reducible (replace h := bnt h) | with_reducible (replace h := bnf h) | with_reducible (replace h := Int.not_lt.mp h) | with_reducible (replace h := Int.not_le.mp h) | with_reducible (replace h := band_dec h) | with_reducible (replace h := band_decF h) | with_reducible (replace h := bor_dec h) | with_reducible (replace h := bor_decF h)))) <;> (try (exfalso; first | contradiction | omega)))) | (((with_reducible apply T_cond); exact rfl) <;> intro h <;> (try (repeat (first | with_reducible (replace h := of_decide_eq_true h) | with_reducible (replace h := of_decide_eq_false h) | with_reducible (replace h := bnt h) | with_reducible (replace h := bnf h) | with_reducible (replace h := Int.not_lt.mp h) | with_reducible (replace h := Int.not_le.mp h) | with_reducible (replace h := band_dec h) | with_reducible (replace h := band_decF h) | with_reducible (replace h := bor_dec h) | with_reducible (replace h := bor_decF h)))) <;> (try (exfalso; first | contradiction | omega))))
  rename_i ga gc
  have hcl : ∀ i j, i < n → n ≤ j → (closedF n f i).testBit j = false := fun i j hi hj => by
    have hb := wOut_lt (B := n) (f := f) (fun i hi => by
      rcases Nat.lt_or_ge i n with h | h
      · exact hf i h
      · rw [hf0 i h hi]; exact Nat.two_pow_pos _) n hn n hn i (by omega)
    exact Nat.testBit_lt_two_pow (Nat.lt_of_lt_of_le hb (Nat.pow_le_pow_right (by decide) hj))
  have hc16 : ∀ i, i < 12 → closedF n f i < 65536 := wOut_lt (B := 16) (fun i hi => by
      rcases Nat.lt_or_ge i n with h | h
      · exact Nat.lt_of_lt_of_le (hf i h) (Nat.pow_le_pow_right (by decide) (by omega))
      · rw [hf0 i h hi]; exact Nat.two_pow_pos _) n hn n hn
  refine T_loop (X := Nat × (Nat → Nat) × Bool)
    (fun x => [(13, .int .i64 (x.1 : Nat)), (12, .int .i64 (n : Nat)), (5, .bool x.2.2), (4, .pointer (some ⟨g, 0, none⟩)), (2, .pointer (some ⟨gc, 0, none⟩)), (1, .pointer (some ⟨ga, 0, none⟩))])
    (fun x => [entBlk g 37 (relCells n x.2.1), entBlk gc 37 (relCells 0 (fun _ => 0)), entBlk ga 37 (relCells n f)])
    (fun x => x.1 ≤ n ∧ (∀ r, r < 12 → x.2.1 r = if r < x.1 then closedF n f r else 0) ∧ x.2.2 = (List.range x.1).any fun r => (closedF n f r).testBit r)
    (fun x => n - x.1) (0, (fun _ => 0), false) ⟨by omega, by simp, by simp⟩ (by (repeat (first | exact SubE.nil _ | refine SubE.cons rfl ?_))) (fun w hw => hw) ?_
  rintro ⟨i, u, rd⟩ ⟨hi, hh, hr⟩
  dsimp only at hi hh hr ⊢
  by_cases hin : i < n
  · repeat' (first | first | with_reducible apply T_seq | with_reducible apply T_region | with_reducible apply TL_nil | with_reducible apply At_then | with_reducible apply T_block | with_reducible apply At_block | with_reducible apply T_skip | with_reducible apply T_exit | with_reducible apply At_then_exit | with_reducible apply At_block_exit | ((with_reducible apply At_block_past); exact rfl) | with_reducible apply T_ret | with_reducible apply At_then_ret | with_reducible apply At_block_ret | with_reducible apply TD_nil | with_reducible apply TD_fork | ((with_reducible apply TL_q); exact QS.auto; exact rfl) | ((with_reducible apply TL_e); exact ES.auto; exact rfl; (first | (rintro _ _ ⟨rfl, rfl⟩) | (rintro _ _ ⟨g, rfl, rfl⟩) | (rintro _ _ ⟨A', c', rfl, rfl⟩))) | (first | ((with_reducible apply TL_yes); exact rfl; exact rfl; (with_reducible exact rfl)) | ((with_reducible apply TL_no); exact rfl; exact rfl; (first | with_reducible exact Bool.not_true.symm | with_reducible exact Bool.not_false.symm); exact rfl) | ((with_reducible apply TL_no_undef); exact rfl; exact rfl; exact rfl) | (((with_reducible apply TL_guard); exact rfl; exact rfl; (fail_if_success (with_reducible refine imp_lit1 ?_)); (fail_if_success (with_reducible refine imp_lit0))) <;> intro h <;> (try (repeat (first | with_reducible (replace h := of_decide_eq_true h) | with_reducible (replace h := of_decide_eq_false h) | with_reducible (replace h := bnt h) | with_reducible (replace h := bnf h) | with_reducible (replace h := Int.not_lt.mp h) | with_reducible (replace h := Int.not_le.mp h) | with_reducible (replace h := band_dec h) | with_reducible (replace h := band_decF h) | with_reducible (replace h := bor_dec h) | with_reducible (replace h := bor_decF h)))) <;> (try (exfalso; first | contradiction | omega))) | (((with_reducible apply TD_guard); exact rfl; exact rfl; (fail_if_success (with_reducible refine imp_lit1 ?_)); (fail_if_success (with_reducible refine imp_lit0))) <;> intro h <;> (try (repeat (first | with_reducible (replace h := of_decide_eq_true h) | with_reducible (replace h := of_decide_eq_false h) | with_reducible (replace h := bnt h) | with_reducible (replace h := bnf h) | with_reducible (replace h := Int.not_lt.mp h) | with_reducible (replace h := Int.not_le.mp h) | with_reducible (replace h := band_dec h) | with_reducible (replace h := band_decF h) | with_reducible (replace h := bor_dec h) | with_reducible (replace h := bor_decF h)))) <;> (try (exfalso; first | contradiction | omega)))) | (((with_reducible apply T_cond); exact rfl) <;> intro h <;> (try (repeat (first | with_reducible (replace h := of_decide_eq_true h) | with_reducible (replace h := of_decide_eq_false h) | with_reducible (replace h := bnt h) | with_reducible (replace h := bnf h) | with_reducible (replace h := Int.not_lt.mp h) | with_reducible (replace h := Int.not_le.mp h) | with_reducible (replace h := band_dec h) | with_reducible (replace h := band_decF h) | with_reducible (replace h := bor_dec h) | with_reducible (replace h := bor_decF h)))) <;> (try (exfalso; first | contradiction | omega))))
    refine T_loop (X := Nat × (Nat → Nat) × Bool)
      (fun x => [(18, .int .i64 (x.1 : Nat)), (17, .int .i64 (n : Nat)), (6, .int .i64 (i : Nat)), (13, .int .i64 (i : Nat)), (12, .int .i64 (n : Nat)), (5, .bool x.2.2), (4, .pointer (some ⟨g, 0, none⟩)), (2, .pointer (some ⟨gc, 0, none⟩)), (1, .pointer (some ⟨ga, 0, none⟩))])
      (fun x => [entBlk g 37 (relCells n x.2.1), entBlk gc 37 (relCells 0 (fun _ => 0)), entBlk ga 37 (relCells n f)])
      (fun x => x.1 ≤ n ∧ (∀ r, r < 12 → x.2.1 r = if r < i then closedF n f r else if r = i then closedF n f i % 2 ^ x.1 else 0) ∧ x.2.2 = rdF (closedF n f) i x.1)
      (fun x => n - x.1) (0, u, rd) ⟨by omega, fun r hr' => ?_, hr.trans (rdF_zero _ _).symm⟩ (by (repeat (first | exact SubE.nil _ | refine SubE.cons rfl ?_))) (fun w hw => hw) ?_
    · dsimp only
      rw [hh r hr']; split
      · rfl
      · simp [Nat.mod_one]
    clear hh hr
    rintro ⟨j, u, rd⟩ ⟨hj, hh, hr⟩
    dsimp only at hj hh hr ⊢
    by_cases hjn : j < n
    · have hi12 : i < 12 := by omega
      have hhi : u i < 65536 := by
        rw [hh i hi12, if_neg (by omega), if_pos rfl]
        exact Nat.lt_of_le_of_lt (Nat.mod_le _ _) (hc16 i hi12)
      have hj16 : j < 16 := by omega
      have hpw : 2 ^ j < 65536 := pow_lt_16 hj16
      have hmod := mod_next (closedF n f i) j
      have step : (closedF n f i).testBit j = true → ∀ r, r < 12 → upd u i (u i ||| 2 ^ j) r = if r < i then closedF n f r else if r = i then closedF n f i % 2 ^ (j + 1) else 0 := by
        intro hb r hr'
        unfold upd
        rw [hmod, if_pos hb]
        by_cases e : r = i
        · subst e
          rw [if_pos rfl, if_neg (by omega), if_pos rfl, hh r hr', if_neg (by omega), if_pos rfl]
        · rw [if_neg e, hh r hr', if_neg e, if_neg e]
      repeat' (first | first | with_reducible apply T_seq | with_reducible apply T_region | with_reducible apply TL_nil | with_reducible apply At_then | with_reducible apply T_block | with_reducible apply At_block | with_reducible apply T_skip | with_reducible apply T_exit | with_reducible apply At_then_exit | with_reducible apply At_block_exit | ((with_reducible apply At_block_past); exact rfl) | with_reducible apply T_ret | with_reducible apply At_then_ret | with_reducible apply At_block_ret | with_reducible apply TD_nil | with_reducible apply TD_fork | ((with_reducible apply TL_q); exact QS.auto; exact rfl) | ((with_reducible apply TL_e); exact ES.auto; exact rfl; (first | (rintro _ _ ⟨rfl, rfl⟩) | (rintro _ _ ⟨g, rfl, rfl⟩) | (rintro _ _ ⟨A', c', rfl, rfl⟩))) | (first | ((with_reducible apply TL_yes); exact rfl; exact rfl; (with_reducible exact rfl)) | ((with_reducible apply TL_no); exact rfl; exact rfl; (first | with_reducible exact Bool.not_true.symm | with_reducible exact Bool.not_false.symm); exact rfl) | ((with_reducible apply TL_no_undef); exact rfl; exact rfl; exact rfl) | (((with_reducible apply TL_guard); exact rfl; exact rfl; (fail_if_success (with_reducible refine imp_lit1 ?_)); (fail_if_success (with_reducible refine imp_lit0))) <;> intro h <;> (try (repeat (first | with_reducible (replace h := of_decide_eq_true h) | with_reducible (replace h := of_decide_eq_false h) | with_reducible (replace h := bnt h) | with_reducible (replace h := bnf h) | with_reducible (replace h := Int.not_lt.mp h) | with_reducible (replace h := Int.not_le.mp h) | with_reducible (replace h := band_dec h) | with_reducible (replace h := band_decF h) | with_reducible (replace h := bor_dec h) | with_reducible (replace h := bor_decF h)))) <;> (try (exfalso; first | contradiction | omega))) | (((with_reducible apply TD_guard); exact rfl; exact rfl; (fail_if_success (with_reducible refine imp_lit1 ?_)); (fail_if_success (with_reducible refine imp_lit0))) <;> intro h <;> (try (repeat (first | with_reducible (replace h := of_decide_eq_true h) | with_reducible (replace h := of_decide_eq_false h) | with_reducible (replace h := bnt h) | with_reducible (replace h := bnf h) | with_reducible (replace h := Int.not_lt.mp h) | with_reducible (replace h := Int.not_le.mp h) | with_reducible (replace h := band_dec h) | with_reducible (replace h := band_decF h) | with_reducible (replace h := bor_dec h) | with_reducible (replace h := bor_decF h)))) <;> (try (exfalso; first | contradiction | omega)))) | (((with_reducible apply T_cond); exact rfl) <;> intro h <;> (try (repeat (first | with_reducible (replace h := of_decide_eq_true h) | with_reducible (replace h := of_decide_eq_false h) | with_reducible (replace h := bnt h) | with_reducible (replace h := bnf h) | with_reducible (replace h := Int.not_lt.mp h) | with_reducible (replace h := Int.not_le.mp h) | with_reducible (replace h := band_dec h) | with_reducible (replace h := band_decF h) | with_reducible (replace h := bor_dec h) | with_reducible (replace h := bor_decF h)))) <;> (try (exfalso; first | contradiction | omega))) | ((with_reducible apply TD_q0); exact QS.auto; exact rfl) | ((with_reducible apply TD_q1); exact QS.auto; exact rfl) | ((with_reducible apply TD_q0y); exact rfl; exact rfl; (with_reducible exact rfl); exact QS.auto; exact rfl) | ((with_reducible apply TD_q1y); exact rfl; exact rfl; (with_reducible exact rfl); exact QS.auto; exact rfl) | ((with_reducible apply TD_no); exact rfl; exact rfl; exact rfl; (first | with_reducible exact Bool.not_true.symm | with_reducible exact Bool.not_false.symm); exact rfl) | ((with_reducible apply TD_noU); exact rfl; exact rfl; exact rfl; exact rfl) | ((with_reducible apply TD_e2); exact ES.auto; exact rfl; (first | (rintro _ _ ⟨rfl, rfl⟩) | (rintro _ _ ⟨g, rfl, rfl⟩) | (rintro _ _ ⟨A', c', rfl, rfl⟩)); refine ⟨by (repeat (first | with_reducible exact List.nil_sublist _ | with_reducible exact List.Sublist.refl _ | with_reducible apply List.Sublist.cons_cons | with_reducible apply List.Sublist.cons)), ?_⟩) | ((with_reducible apply TD_e3); exact ES.auto; exact rfl; (first | (rintro _ _ ⟨rfl, rfl⟩) | (rintro _ _ ⟨g, rfl, rfl⟩) | (rintro _ _ ⟨A', c', rfl, rfl⟩))) | ((with_reducible apply TD_q3); exact QS.auto; exact rfl) | ((with_reducible apply TD_q2); exact QS.auto; exact rfl) | ((with_reducible apply TD_e2y); exact rfl; exact rfl; (with_reducible exact rfl); exact ES.auto; (first | (rintro _ _ ⟨rfl, rfl⟩) | (rintro _ _ ⟨g, rfl, rfl⟩) | (rintro _ _ ⟨A', c', rfl, rfl⟩)); refine ⟨by (repeat (first | with_reducible exact List.nil_sublist _ | with_reducible exact List.Sublist.refl _ | with_reducible apply List.Sublist.cons_cons | with_reducible apply List.Sublist.cons)), ?_⟩) | ((with_reducible apply TD_e3y); exact rfl; exact rfl; (with_reducible exact rfl); exact ES.auto; (first | (rintro _ _ ⟨rfl, rfl⟩) | (rintro _ _ ⟨g, rfl, rfl⟩) | (rintro _ _ ⟨A', c', rfl, rfl⟩))) | ((with_reducible apply TD_eno); exact rfl; exact rfl; exact rfl; (first | with_reducible exact Bool.not_true.symm | with_reducible exact Bool.not_false.symm); exact rfl) | ((with_reducible apply TD_enoU); exact rfl; exact rfl; exact rfl; exact rfl) | ((with_reducible apply T_draw (id := 10) 9 (OT.seq [(0, 0), (0, 1), (0, 2), (0, 4), (0, 5), (0, 7), (1, 3), (0, 6), (0, 8), (3, 9)] .nil)); kernel_rfl; exact rfl; kernel_rfl; (repeat (first | with_reducible exact Blind.body | with_reducible apply Blind.seq | with_reducible apply Blind.block))) | first | ((with_reducible apply TL_e); ((with_reducible apply ES_callV); exact rfl; (intro w hw; exact reaches_any n f i j w hn hf hin hjn); exact rfl); exact rfl; (rintro _ _ ⟨rfl, rfl⟩)) | ((with_reducible apply TD_e2); ((with_reducible apply ES_callV); exact rfl; (intro w hw; exact reaches_any n f i j w hn hf hin hjn); exact rfl); exact rfl; (rintro _ _ ⟨rfl, rfl⟩); refine ⟨by (repeat (first | with_reducible exact List.nil_sublist _ | with_reducible exact List.Sublist.refl _ | with_reducible apply List.Sublist.cons_cons | with_reducible apply List.Sublist.cons)), ?_⟩) | ((with_reducible apply TD_e3); ((with_reducible apply ES_callV); exact rfl; (intro w hw; exact reaches_any n f i j w hn hf hin hjn); exact rfl); exact rfl; (rintro _ _ ⟨rfl, rfl⟩)) | ((with_reducible apply TD_e2y); exact rfl; exact rfl; (with_reducible exact rfl); ((with_reducible apply ES_callV); exact rfl; (intro w hw; exact reaches_any n f i j w hn hf hin hjn); exact rfl); (rintro _ _ ⟨rfl, rfl⟩); refine ⟨by (repeat (first | with_reducible exact List.nil_sublist _ | with_reducible exact List.Sublist.refl _ | with_reducible apply List.Sublist.cons_cons | with_reducible apply List.Sublist.cons)), ?_⟩) | ((with_reducible apply TD_e3y); exact rfl; exact rfl; (with_reducible exact rfl); ((with_reducible apply ES_callV); exact rfl; (intro w hw; exact reaches_any n f i j w hn hf hin hjn); exact rfl); (rintro _ _ ⟨rfl, rfl⟩)) | fail)
      · have hb : (closedF n f i).testBit j = true := by assumption
        have hrd : rd = true := by assumption
        refine At_rounds (j + 1, upd u i (u i ||| 2 ^ j), true) ⟨by omega, fun r hr' => ?_, ?_⟩ (by dsimp only; omega) (by (repeat (first | exact SubE.nil _ | refine SubE.cons rfl ?_))) (by (intro w hw; exact hw.sub (by first | ((repeat (first | with_reducible exact List.nil_sublist _ | with_reducible exact List.Sublist.refl _ | with_reducible apply List.Sublist.cons_cons | with_reducible apply List.Sublist.cons)); done) | (repeat (first | exact List.nil_sublist _ | exact List.Sublist.refl _ | apply List.Sublist.cons_cons | apply List.Sublist.cons)))))
        · exact step hb r hr'
        · rw [rdF_yes hb, ← hr, hrd]; rfl
      · have hb : (closedF n f i).testBit j = true := by assumption
        have hrd : rd = false := by assumption
        refine At_rounds (j + 1, upd u i (u i ||| 2 ^ j), decide ((i : Int) = (j : Int))) ⟨by omega, fun r hr' => ?_, ?_⟩ (by dsimp only; omega) (by (repeat (first | exact SubE.nil _ | refine SubE.cons rfl ?_))) (by (intro w hw; exact hw.sub (by first | ((repeat (first | with_reducible exact List.nil_sublist _ | with_reducible exact List.Sublist.refl _ | with_reducible apply List.Sublist.cons_cons | with_reducible apply List.Sublist.cons)); done) | (repeat (first | exact List.nil_sublist _ | exact List.Sublist.refl _ | apply List.Sublist.cons_cons | apply List.Sublist.cons)))))
        · exact step hb r hr'
        · rw [rdF_yes hb, ← hr, hrd, Bool.false_or]
          exact decide_eq_decide.2 (by omega)
      · have hb : (closedF n f i).testBit j = false := by assumption
        refine At_rounds (j + 1, u, rd) ⟨by omega, fun r hr' => ?_, ?_⟩ (by dsimp only; omega) (by (repeat (first | exact SubE.nil _ | refine SubE.cons rfl ?_))) (by (intro w hw; exact hw.sub (by first | ((repeat (first | with_reducible exact List.nil_sublist _ | with_reducible exact List.Sublist.refl _ | with_reducible apply List.Sublist.cons_cons | with_reducible apply List.Sublist.cons)); done) | (repeat (first | exact List.nil_sublist _ | exact List.Sublist.refl _ | apply List.Sublist.cons_cons | apply List.Sublist.cons)))))
        · have hm' : closedF n f i % 2 ^ (j + 1) = closedF n f i % 2 ^ j := by rw [hmod, if_neg (by rw [hb]; exact Bool.false_ne_true)]
          dsimp only
          rw [hm']; exact hh r hr'
        · rw [rdF_no hb]; exact hr
    · obtain rfl : j = n := by omega
      repeat' (first | first | with_reducible apply T_seq | with_reducible apply T_region | with_reducible apply TL_nil | with_reducible apply At_then | with_reducible apply T_block | with_reducible apply At_block | with_reducible apply T_skip | with_reducible apply T_exit | with_reducible apply At_then_exit | with_reducible apply At_block_exit | ((with_reducible apply At_block_past); exact rfl) | with_reducible apply T_ret | with_reducible apply At_then_ret | with_reducible apply At_block_ret | with_reducible apply TD_nil | with_reducible apply TD_fork | ((with_reducible apply TL_q); exact QS.auto; exact rfl) | ((with_reducible apply TL_e); exact ES.auto; exact rfl; (first | (rintro _ _ ⟨rfl, rfl⟩) | (rintro _ _ ⟨g, rfl, rfl⟩) | (rintro _ _ ⟨A', c', rfl, rfl⟩))) | (first | ((with_reducible apply TL_yes); exact rfl; exact rfl; (with_reducible exact rfl)) | ((with_reducible apply TL_no); exact rfl; exact rfl; (first | with_reducible exact Bool.not_true.symm | with_reducible exact Bool.not_false.symm); exact rfl) | ((with_reducible apply TL_no_undef); exact rfl; exact rfl; exact rfl) | (((with_reducible apply TL_guard); exact rfl; exact rfl; (fail_if_success (with_reducible refine imp_lit1 ?_)); (fail_if_success (with_reducible refine imp_lit0))) <;> intro h <;> (try (repeat (first | with_reducible (replace h := of_decide_eq_true h) | with_reducible (replace h := of_decide_eq_false h) | with_reducible (replace h := bnt h) | with_reducible (replace h := bnf h) | with_reducible (replace h := Int.not_lt.mp h) | with_reducible (replace h := Int.not_le.mp h) | with_reducible (replace h := band_dec h) | with_reducible (replace h := band_decF h) | with_reducible (replace h := bor_dec h) | with_reducible (replace h := bor_decF h)))) <;> (try (exfalso; first | contradiction | omega))) | (((with_reducible apply TD_guard); exact rfl; exact rfl; (fail_if_success (with_reducible refine imp_lit1 ?_)); (fail_if_success (with_reducible refine imp_lit0))) <;> intro h <;> (try (repeat (first | with_reducible (replace h := of_decide_eq_true h) | with_reducible (replace h := of_decide_eq_false h) | with_reducible (replace h := bnt h) | with_reducible (replace h := bnf h) | with_reducible (replace h := Int.not_lt.mp h) | with_reducible (replace h := Int.not_le.mp h) | with_reducible (replace h := band_dec h) | with_reducible (replace h := band_decF h) | with_reducible (replace h := bor_dec h) | with_reducible (replace h := bor_decF h)))) <;> (try (exfalso; first | contradiction | omega)))) | (((with_reducible apply T_cond); exact rfl) <;> intro h <;> (try (repeat (first | with_reducible (replace h := of_decide_eq_true h) | with_reducible (replace h := of_decide_eq_false h) | with_reducible (replace h := bnt h) | with_reducible (replace h := bnf h) | with_reducible (replace h := Int.not_lt.mp h) | with_reducible (replace h := Int.not_le.mp h) | with_reducible (replace h := band_dec h) | with_reducible (replace h := band_decF h) | with_reducible (replace h := bor_dec h) | with_reducible (replace h := bor_decF h)))) <;> (try (exfalso; first | contradiction | omega))))
      refine At_rounds (i + 1, u, rd) ⟨by omega, fun r hr' => ?_, ?_⟩ (by dsimp only; omega) (by (repeat (first | exact SubE.nil _ | refine SubE.cons rfl ?_))) (by (intro w hw; exact hw.sub (by first | ((repeat (first | with_reducible exact List.nil_sublist _ | with_reducible exact List.Sublist.refl _ | with_reducible apply List.Sublist.cons_cons | with_reducible apply List.Sublist.cons)); done) | (repeat (first | exact List.nil_sublist _ | exact List.Sublist.refl _ | apply List.Sublist.cons_cons | apply List.Sublist.cons)))))
      · dsimp only
        rw [hh r hr']
        by_cases e1 : r < i
        · rw [if_pos e1, if_pos (by omega)]
        · rw [if_neg e1]
          by_cases e2 : r = i
          · subst e2
            rw [if_pos rfl, if_pos (by omega)]
            apply Nat.mod_eq_of_lt
            apply Nat.lt_pow_two_of_testBit
            intro q hq
            exact hcl r q hin hq
          · rw [if_neg e2, if_neg (by omega)]
      · rw [hr, rdF_end hin]
  · obtain rfl : i = n := by omega
    repeat' (first | first | with_reducible apply T_seq | with_reducible apply T_region | with_reducible apply TL_nil | with_reducible apply At_then | with_reducible apply T_block | with_reducible apply At_block | with_reducible apply T_skip | with_reducible apply T_exit | with_reducible apply At_then_exit | with_reducible apply At_block_exit | ((with_reducible apply At_block_past); exact rfl) | with_reducible apply T_ret | with_reducible apply At_then_ret | with_reducible apply At_block_ret | with_reducible apply TD_nil | with_reducible apply TD_fork | ((with_reducible apply TL_q); exact QS.auto; exact rfl) | ((with_reducible apply TL_e); exact ES.auto; exact rfl; (first | (rintro _ _ ⟨rfl, rfl⟩) | (rintro _ _ ⟨g, rfl, rfl⟩) | (rintro _ _ ⟨A', c', rfl, rfl⟩))) | (first | ((with_reducible apply TL_yes); exact rfl; exact rfl; (with_reducible exact rfl)) | ((with_reducible apply TL_no); exact rfl; exact rfl; (first | with_reducible exact Bool.not_true.symm | with_reducible exact Bool.not_false.symm); exact rfl) | ((with_reducible apply TL_no_undef); exact rfl; exact rfl; exact rfl) | (((with_reducible apply TL_guard); exact rfl; exact rfl; (fail_if_success (with_reducible refine imp_lit1 ?_)); (fail_if_success (with_reducible refine imp_lit0))) <;> intro h <;> (try (repeat (first | with_reducible (replace h := of_decide_eq_true h) | with_reducible (replace h := of_decide_eq_false h) | with_reducible (replace h := bnt h) | with_reducible (replace h := bnf h) | with_reducible (replace h := Int.not_lt.mp h) | with_reducible (replace h := Int.not_le.mp h) | with_reducible (replace h := band_dec h) | with_reducible (replace h := band_decF h) | with_reducible (replace h := bor_dec h) | with_reducible (replace h := bor_decF h)))) <;> (try (exfalso; first | contradiction | omega))) | (((with_reducible apply TD_guard); exact rfl; exact rfl; (fail_if_success (with_reducible refine imp_lit1 ?_)); (fail_if_success (with_reducible refine imp_lit0))) <;> intro h <;> (try (repeat (first | with_reducible (replace h := of_decide_eq_true h) | with_reducible (replace h := of_decide_eq_false h) | with_reducible (replace h := bnt h) | with_reducible (replace h := bnf h) | with_reducible (replace h := Int.not_lt.mp h) | with_reducible (replace h := Int.not_le.mp h) | with_reducible (replace h := band_dec h) | with_reducible (replace h := band_decF h) | with_reducible (replace h := bor_dec h) | with_reducible (replace h := bor_decF h)))) <;> (try (exfalso; first | contradiction | omega)))) | (((with_reducible apply T_cond); exact rfl) <;> intro h <;> (try (repeat (first | with_reducible (replace h := of_decide_eq_true h) | with_reducible (replace h := of_decide_eq_false h) | with_reducible (replace h := bnt h) | with_reducible (replace h := bnf h) | with_reducible (replace h := Int.not_lt.mp h) | with_reducible (replace h := Int.not_le.mp h) | with_reducible (replace h := band_dec h) | with_reducible (replace h := band_decF h) | with_reducible (replace h := bor_dec h) | with_reducible (replace h := bor_decF h)))) <;> (try (exfalso; first | contradiction | omega))))
    ((with_reducible apply At_retM Try.results22); (repeat (first | exact ResIs.nil | (apply ResIs.tmp; exact rfl) | (apply ResIs.cell; exact rfl; exact Lds.auto))); intro w' hw)
    refine ⟨?_, hw.below0 rfl⟩
    rw [hr, relCells_congr i u (closedF i f)]
    · rfl
    · intro r hr'
      rw [hh r hr']
      split
      · rfl
      · have h0 : closedF i f r = f r := wOut_far f i i r (by omega) (by omega)
        rw [h0, hf0 r (by omega) hr']
end Go.Proofs.Ytkhdihieepfcpaa
