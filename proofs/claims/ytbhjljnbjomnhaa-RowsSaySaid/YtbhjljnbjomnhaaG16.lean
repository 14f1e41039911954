/- Lemmas for the walks (RwA). No condition. -/
import Derived.Test.YtbhjljnbjomnhaaG15
set_option linter.unusedSimpArgs false
set_option linter.unusedVariables false
set_option linter.unusedSectionVars false
set_option linter.unnecessarySimpa false
namespace Go.Proofs.Ytbhjljnbjomnhaa
open Go.RowKit

section
variable {cs : List Cl}
theorem rows_1 {k : Nat} (h : firstN cs.length (straB cs) = some k) : rowsV cs = ⟨1, k, 0⟩ := by
  unfold rowsV straV; rw [h]; rfl
theorem rows_2 {k : Nat} (h1 : firstN cs.length (straB cs) = none) (h : firstN cs.length (tweB cs) = some k) : rowsV cs = ⟨2, k, gotBy cs (clK cs k).res⟩ := by
  unfold rowsV straV tweV; rw [h1, h]; rfl
theorem rows_3 {k : Nat} (h1 : firstN cs.length (straB cs) = none) (h2 : firstN cs.length (tweB cs) = none) (h : firstN cs.length (earB cs) = some k) : rowsV cs = ⟨3, k, putBy cs (clK cs k).res⟩ := by
  unfold rowsV straV tweV earV; rw [h1, h2, h]; rfl
theorem rows_4 {a b : Nat} (h1 : firstN cs.length (straB cs) = none) (h2 : firstN cs.length (tweB cs) = none) (h3 : firstN cs.length (earB cs) = none) (h : firstP 1001 (fun _ => 1001) (fifB cs) = some (a, b)) : rowsV cs = ⟨6, a, b⟩ := by
  unfold rowsV straV tweV earV fifV; rw [h1, h2, h3, h]; rfl
theorem rows_5 (h1 : firstN cs.length (straB cs) = none) (h2 : firstN cs.length (tweB cs) = none) (h3 : firstN cs.length (earB cs) = none) (h4 : firstP 1001 (fun _ => 1001) (fifB cs) = none) : rowsV cs = empV cs := by
  unfold rowsV straV tweV earV fifV; rw [h1, h2, h3, h4]; rfl
theorem fifB_0a (hok : QuOk cs) (b : Nat) : fifB cs 0 b = false := by
  rw [Bool.eq_false_iff]
  intro e
  have h := (fifB_key 0 b e).1
  obtain ⟨n, h1, h2, _⟩ := putBy_key hok (of_decide_eq_true h)
  omega
theorem fifB_0b (hok : QuOk cs) (a : Nat) : fifB cs a 0 = false := by
  rw [Bool.eq_false_iff]
  intro e
  have h := (fifB_key a 0 e).2
  obtain ⟨n, h1, h2, _⟩ := putBy_key hok (of_decide_eq_true h)
  omega
/-- is something there at a time, by the calls -/
def fullC (cs : List Cl) (t : Int) (q : Nat) : Bool := (List.range q).any fun i => decide ((clK cs i).kind = 3) && (stayB cs (clK cs i).arg && inB (stayE cs (clK cs i).arg) t)
theorem fullC_succ (t : Int) (q : Nat) : fullC cs t (q + 1) = (fullC cs t q || (decide ((clK cs q).kind = 3) && (stayB cs (clK cs q).arg && inB (stayE cs (clK cs q).arg) t))) := by
  unfold fullC
  rw [List.range_succ, List.any_append]; simp
theorem fullC_all (hok : QuOk cs) (t : Int) : fullC cs t cs.length = fullB cs t := by
  unfold fullC fullB stayL
  rw [Bool.eq_iff_iff, List.any_eq_true, List.any_eq_true]
  constructor
  · rintro ⟨i, hi, h⟩
    rw [Bool.and_eq_true, Bool.and_eq_true, decide_eq_true_eq] at h
    have hp := hok.put i (List.mem_range.1 hi) h.1
    refine ⟨stayE cs (clK cs i).arg, List.mem_filterMap.2 ⟨(clK cs i).arg.toNat, List.mem_range.2 (by omega), ?_⟩, h.2.2⟩
    rw [show (((clK cs i).arg.toNat : Nat) : Int) = (clK cs i).arg by omega]
    unfold stayO
    rw [if_pos h.2.1]
  · rintro ⟨s, hs, h⟩
    obtain ⟨v, hv, h2⟩ := List.mem_filterMap.1 hs
    unfold stayO at h2
    split at h2
    · rename_i hb
      cases h2
      have hb2 := hb
      unfold stayB at hb2
      rw [Bool.and_eq_true, decide_eq_true_eq] at hb2
      obtain ⟨k, hk, hkl, h3, ha⟩ := putBy_at hb2.1
      exact ⟨k, List.mem_range.2 hkl, by rw [ha, hb, h, decide_eq_true h3]; rfl⟩
    · cases h2
end
section
variable (A : Option Addr) (ca : Nat) (cs : List Cl) (w : World) (hA : RdE Cl.enc 7 w A cs) (hok : QuOk cs)
include hA hok
set_option maxRecDepth 100000 in
set_option maxHeartbeats 16000000 in
theorem badRows_any : Calls Try.prog 25 #[.slice A cs.length ca] w fun e w' => e = .returned (.agg (Bd.enc (rowsV cs)).toArray) ∧ Below w.heap.size w w' := by
  have hl := hok.few
  have hp := fun v w' (hb : Below w.heap.size w w') => putBy_any A ca cs v w' (RdE.below hA hb) hl
  have hg := fun v w' (hb : Below w.heap.size w w') => takenBy_any A ca cs v w' (RdE.below hA hb) hl
  have hso := fun v w' (hb : Below w.heap.size w w') => stayOf_any A ca cs v w' (RdE.below hA hb) hl hok.frm
  have hpb := fun v => ixN_bd cs.length (isPut cs v)
  have hgb := fun v => ixN_bd cs.length (isGot cs v)
  have e1 : ∀ v, ixN cs.length (isPut cs v) = putBy cs v := fun v => rfl
  have e2 : ∀ v, ixN cs.length (isGot cs v) = gotBy cs v := fun v => rfl
  simp only [e1] at hpb
  simp only [e2] at hgb
  clear e1 e2
  refine calls_T (S := []) [] Try.func25 rfl Try.ntmps25 (by simp) (Mem.nil _) ?_
  repeat' (first | (refine GO ?_) | (refine GOE ?_; (first | (rintro _ _ ⟨rfl, rfl⟩) | (rintro _ _ ⟨g, rfl, rfl⟩) | (rintro _ _ ⟨A', c', rfl, rfl⟩))) | ((refine GO2 ?_ ?_) <;> intro h <;> (try (repeat (first | with_reducible (replace h := of_decide_eq_true h) | with_reducible (replace h := of_decide_eq_false h) | with_reducible (replace h := bnt h) | with_reducible (replace h := bnf h) | with_reducible (replace h := Int.not_lt.mp h) | with_reducible (replace h := Int.not_le.mp h) | with_reducible (replace h := band_dec h) | with_reducible (replace h := band_decF h) | with_reducible (replace h := bor_dec h) | with_reducible (replace h := bor_decF h)))) <;> (try (exfalso; first | contradiction | omega))) | fail)
  obtain ⟨gb, rfl⟩ : ∃ x, x = g := ⟨_, rfl⟩
  refine T_loop (X := Nat) (fun k => [(25, .int .i64 (k : Nat)), (24, .int .i64 cs.length), (23, .slice A cs.length ca), (2, .pointer (some ⟨gb, 0, none⟩)), (0, .slice A cs.length ca)]) (fun _ => [entBlk gb 48 #[.int .i64 0, .int .i64 0, .int .i64 0]]) (fun k => k ≤ cs.length ∧ ∀ i, i < k → straB cs i = false) (fun k => cs.length - k) 0 ⟨by omega, fun i hi => by omega⟩ (by (repeat (first | exact SubE.nil _ | refine SubE.cons rfl ?_))) (by exact SUBS) ?_
  rintro k ⟨hk, hno⟩
  by_cases hkl : k < cs.length
  · obtain ⟨bC, oC, rfl, _⟩ := RdE.open hA (by omega)
    have hq : straB cs k = (decide (cs[k].kind = 4) && (decide (0 < cs[k].res) && decide (putBy cs cs[k].res < 0))) := by unfold straB; rw [clK_eq hkl]
    repeat' (first | (refine GO ?_) | (refine GOE ?_; (first | (rintro _ _ ⟨rfl, rfl⟩) | (rintro _ _ ⟨g, rfl, rfl⟩) | (rintro _ _ ⟨A', c', rfl, rfl⟩))) | ((refine GO2 ?_ ?_) <;> intro h <;> (try (repeat (first | with_reducible (replace h := of_decide_eq_true h) | with_reducible (replace h := of_decide_eq_false h) | with_reducible (replace h := bnt h) | with_reducible (replace h := bnf h) | with_reducible (replace h := Int.not_lt.mp h) | with_reducible (replace h := Int.not_le.mp h) | with_reducible (replace h := band_dec h) | with_reducible (replace h := band_decF h) | with_reducible (replace h := bor_dec h) | with_reducible (replace h := bor_decF h)))) <;> (try (exfalso; first | contradiction | omega))) | ((with_reducible (first | apply TD_e2z | apply TD_e3z | apply TL_e | apply TD_e2 | apply TD_e3)); ((with_reducible apply ES_callV (f := 72)); exact rfl; (intro w hw; exact hp _ w (hw.below0 rfl)); exact rfl); (first | exact rfl | exact ⟨rfl, rfl, rfl⟩); (rintro _ _ ⟨rfl, rfl⟩); (try refine ⟨SUB, ?_⟩)) | fail)
    all_goals first
      | (((with_reducible apply At_retM Try.results25); (repeat (first | exact ResIs.nil | (apply ResIs.tmp; exact rfl) | (apply ResIs.cell; exact rfl; exact Lds.auto))); intro w' hw); rw [rows_1 (firstN_at hkl hno (by rw [hq]; simp [*]))]; exact ⟨rfl, hw.below0 rfl⟩)
      | exact At_rounds (k + 1) ⟨hkl, fun i hi => (Nat.lt_succ_iff_lt_or_eq.1 hi).elim (fun e => hno i e) (fun e => by subst e; rw [hq]; simp [*]; try omega)⟩ (by omega) (by (repeat (first | exact SubE.nil _ | refine SubE.cons rfl ?_))) (by exact SUBS)
  · obtain rfl : k = cs.length := by omega
    have s1 := firstN_none hno
    have hput : ∀ i (hi : i < cs.length), cs[i].kind = 4 → 0 < cs[i].res → 0 ≤ putBy cs cs[i].res := fun i hi h4 hr => by
      have := hno i hi
      unfold straB at this
      rw [clK_eq hi, decide_eq_true h4, decide_eq_true hr, Bool.true_and, Bool.true_and, decide_eq_false_iff_not] at this
      omega
    clear hno
    repeat' (first | (refine GO ?_) | (refine GOE ?_; (first | (rintro _ _ ⟨rfl, rfl⟩) | (rintro _ _ ⟨g, rfl, rfl⟩) | (rintro _ _ ⟨A', c', rfl, rfl⟩))) | ((refine GO2 ?_ ?_) <;> intro h <;> (try (repeat (first | with_reducible (replace h := of_decide_eq_true h) | with_reducible (replace h := of_decide_eq_false h) | with_reducible (replace h := bnt h) | with_reducible (replace h := bnf h) | with_reducible (replace h := Int.not_lt.mp h) | with_reducible (replace h := Int.not_le.mp h) | with_reducible (replace h := band_dec h) | with_reducible (replace h := band_decF h) | with_reducible (replace h := bor_dec h) | with_reducible (replace h := bor_decF h)))) <;> (try (exfalso; first | contradiction | omega))) | fail)
    refine T_loop (X := Nat) (fun k => [(50, .int .i64 (k : Nat)), (49, .int .i64 cs.length), (48, .slice A cs.length ca), (2, .pointer (some ⟨gb, 0, none⟩)), (0, .slice A cs.length ca)]) (fun _ => [entBlk gb 48 #[.int .i64 0, .int .i64 0, .int .i64 0]]) (fun k => k ≤ cs.length ∧ ∀ i, i < k → tweB cs i = false) (fun k => cs.length - k) 0 ⟨by omega, fun i hi => by omega⟩ (by (repeat (first | exact SubE.nil _ | refine SubE.cons rfl ?_))) (by exact SUBS) ?_
    rintro k ⟨hk, hno⟩
    by_cases hkl : k < cs.length
    · obtain ⟨bC, oC, rfl, _⟩ := RdE.open hA (by omega)
      have hck := clK_eq hkl
      have hq : tweB cs k = (decide (cs[k].kind = 4) && (decide (0 < cs[k].res) && decide (gotBy cs cs[k].res < (k : Nat)))) := by unfold tweB; rw [hck]
      repeat' (first | (refine GO ?_) | (refine GOE ?_; (first | (rintro _ _ ⟨rfl, rfl⟩) | (rintro _ _ ⟨g, rfl, rfl⟩) | (rintro _ _ ⟨A', c', rfl, rfl⟩))) | ((refine GO2 ?_ ?_) <;> intro h <;> (try (repeat (first | with_reducible (replace h := of_decide_eq_true h) | with_reducible (replace h := of_decide_eq_false h) | with_reducible (replace h := bnt h) | with_reducible (replace h := bnf h) | with_reducible (replace h := Int.not_lt.mp h) | with_reducible (replace h := Int.not_le.mp h) | with_reducible (replace h := band_dec h) | with_reducible (replace h := band_decF h) | with_reducible (replace h := bor_dec h) | with_reducible (replace h := bor_decF h)))) <;> (try (exfalso; first | contradiction | omega))) | ((with_reducible (first | apply TD_e2z | apply TD_e3z | apply TL_e | apply TD_e2 | apply TD_e3)); ((with_reducible apply ES_callV (f := 73)); exact rfl; (intro w hw; exact hg _ w (hw.below0 rfl)); exact rfl); (first | exact rfl | exact ⟨rfl, rfl, rfl⟩); (rintro _ _ ⟨rfl, rfl⟩); (try refine ⟨SUB, ?_⟩)) | fail)
      all_goals first
        | (((with_reducible apply At_retM Try.results25); (repeat (first | exact ResIs.nil | (apply ResIs.tmp; exact rfl) | (apply ResIs.cell; exact rfl; exact Lds.auto))); intro w' hw); rw [rows_2 s1 (firstN_at hkl hno (by rw [hq]; simp [*])), hck]; exact ⟨rfl, hw.below0 rfl⟩)
        | exact At_rounds (k + 1) ⟨hkl, fun i hi => (Nat.lt_succ_iff_lt_or_eq.1 hi).elim (fun e => hno i e) (fun e => by subst e; rw [hq]; simp [*]; try omega)⟩ (by omega) (by (repeat (first | exact SubE.nil _ | refine SubE.cons rfl ?_))) (by exact SUBS)
    · obtain rfl : k = cs.length := by omega
      have s2 := firstN_none hno
      clear hno
      repeat' (first | (refine GO ?_) | (refine GOE ?_; (first | (rintro _ _ ⟨rfl, rfl⟩) | (rintro _ _ ⟨g, rfl, rfl⟩) | (rintro _ _ ⟨A', c', rfl, rfl⟩))) | ((refine GO2 ?_ ?_) <;> intro h <;> (try (repeat (first | with_reducible (replace h := of_decide_eq_true h) | with_reducible (replace h := of_decide_eq_false h) | with_reducible (replace h := bnt h) | with_reducible (replace h := bnf h) | with_reducible (replace h := Int.not_lt.mp h) | with_reducible (replace h := Int.not_le.mp h) | with_reducible (replace h := band_dec h) | with_reducible (replace h := band_decF h) | with_reducible (replace h := bor_dec h) | with_reducible (replace h := bor_decF h)))) <;> (try (exfalso; first | contradiction | omega))) | fail)
      refine T_loop (X := Nat) (fun k => [(80, .int .i64 (k : Nat)), (79, .int .i64 cs.length), (78, .slice A cs.length ca), (2, .pointer (some ⟨gb, 0, none⟩)), (0, .slice A cs.length ca)]) (fun _ => [entBlk gb 48 #[.int .i64 0, .int .i64 0, .int .i64 0]]) (fun k => k ≤ cs.length ∧ ∀ i, i < k → earB cs i = false) (fun k => cs.length - k) 0 ⟨by omega, fun i hi => by omega⟩ (by (repeat (first | exact SubE.nil _ | refine SubE.cons rfl ?_))) (by exact SUBS) ?_
      rintro k ⟨hk, hno⟩
      by_cases hkl : k < cs.length
      · obtain ⟨bC, oC, rfl, _⟩ := RdE.open hA (by omega)
        have hck := clK_eq hkl
        have hpk := hpb cs[k].res
        by_cases h4 : cs[k].kind = 4 ∧ 0 < cs[k].res
        · have h0 := hput k hkl h4.1 h4.2
          have hq : earB cs k = decide (cs[k].to < (cs[(putBy cs cs[k].res).toNat]'(by omega)).from_) := by unfold earB; rw [hck, decide_eq_true h4.1, decide_eq_true h4.2, Bool.true_and, Bool.true_and, clK_eq (show (putBy cs cs[k].res).toNat < cs.length by omega)]
          obtain ⟨h41, h42⟩ := h4
          repeat' (first | (refine GG ?_) | (refine GE ?_; (first | (rintro _ _ ⟨rfl, rfl⟩) | (rintro _ _ ⟨g, rfl, rfl⟩) | (rintro _ _ ⟨A', c', rfl, rfl⟩)); (try refine ⟨SUB, ?_⟩)) | ((refine GO2 ?_ ?_) <;> intro h <;> (try (repeat (first | with_reducible (replace h := of_decide_eq_true h) | with_reducible (replace h := of_decide_eq_false h) | with_reducible (replace h := bnt h) | with_reducible (replace h := bnf h) | with_reducible (replace h := Int.not_lt.mp h) | with_reducible (replace h := Int.not_le.mp h) | with_reducible (replace h := band_dec h) | with_reducible (replace h := band_decF h) | with_reducible (replace h := bor_dec h) | with_reducible (replace h := bor_decF h)))) <;> (try (exfalso; first | contradiction | omega))) | (refine GOF ?_ ?_) | ((with_reducible apply T_draw (id := 16) 1000 (OT.seq [(0, 0), (1, 1), (0, 2), (0, 3), (0, 4), (1, 5), (0, 6), (0, 7), (0, 8), (0, 9), (0, 11), (0, 12), (0, 13), (1, 10), (1, 14), (2, 15), (0, 16), (0, 17), (1, 18), (0, 19), (0, 20)] .nil)); kernel_rfl; exact rfl; kernel_rfl; (repeat (first | with_reducible exact Blind.body | with_reducible apply Blind.seq | with_reducible apply Blind.block))) | ((with_reducible apply T_draw (id := 28) 1000 (OT.seq [(0, 0), (0, 1), (0, 2), (0, 3), (0, 4), (0, 5), (0, 6), (0, 8), (0, 9), (0, 10), (0, 11), (1, 7), (1, 12), (0, 13), (0, 14), (0, 15), (0, 16), (0, 17), (2, 18), (0, 19), (0, 20)] .nil)); kernel_rfl; exact rfl; kernel_rfl; (repeat (first | with_reducible exact Blind.body | with_reducible apply Blind.seq | with_reducible apply Blind.block))) | ((with_reducible apply T_draw (id := 30) 1000 (OT.seq [(0, 0), (0, 1), (0, 2), (0, 3), (0, 4), (0, 5), (0, 10), (0, 11), (0, 12), (0, 13), (1, 14), (2, 6), (0, 7), (0, 8), (1, 9), (0, 15), (0, 16)] .nil)); kernel_rfl; exact rfl; kernel_rfl; (repeat (first | with_reducible exact Blind.body | with_reducible apply Blind.seq | with_reducible apply Blind.block))) | ((with_reducible (first | apply TD_e2z | apply TD_e3z | apply TL_e | apply TD_e2 | apply TD_e3)); ((with_reducible apply ES_callV (f := 72)); exact rfl; (intro w hw; exact hp _ w (hw.below0 rfl)); exact rfl); (first | exact rfl | exact ⟨rfl, rfl, rfl⟩); (rintro _ _ ⟨rfl, rfl⟩); (try refine ⟨SUB, ?_⟩)) | fail)
          all_goals first
            | (((with_reducible apply At_retM Try.results25); (repeat (first | exact ResIs.nil | (apply ResIs.tmp; exact rfl) | (apply ResIs.cell; exact rfl; exact Lds.auto))); intro w' hw); rw [rows_3 s1 s2 (firstN_at hkl hno (by rw [hq]; simp [*])), hck]; exact ⟨rfl, hw.below0 rfl⟩)
            | exact At_rounds (k + 1) ⟨hkl, fun i hi => (Nat.lt_succ_iff_lt_or_eq.1 hi).elim (fun e => hno i e) (fun e => by subst e; rw [hq]; simp [*])⟩ (by omega) (by (repeat (first | exact SubE.nil _ | refine SubE.cons rfl ?_))) (by exact SUBS)
        · have hq : earB cs k = false := by
            unfold earB
            rw [hck, Bool.eq_false_iff]
            intro e
            simp only [Bool.and_eq_true, decide_eq_true_eq] at e
            exact h4 ⟨e.1, e.2.1⟩
          repeat' (first | (refine GG ?_) | (refine GE ?_; (first | (rintro _ _ ⟨rfl, rfl⟩) | (rintro _ _ ⟨g, rfl, rfl⟩) | (rintro _ _ ⟨A', c', rfl, rfl⟩)); (try refine ⟨SUB, ?_⟩)) | ((refine GO2 ?_ ?_) <;> intro h <;> (try (repeat (first | with_reducible (replace h := of_decide_eq_true h) | with_reducible (replace h := of_decide_eq_false h) | with_reducible (replace h := bnt h) | with_reducible (replace h := bnf h) | with_reducible (replace h := Int.not_lt.mp h) | with_reducible (replace h := Int.not_le.mp h) | with_reducible (replace h := band_dec h) | with_reducible (replace h := band_decF h) | with_reducible (replace h := bor_dec h) | with_reducible (replace h := bor_decF h)))) <;> (try (exfalso; first | contradiction | omega))) | (refine GOF ?_ ?_) | ((with_reducible apply T_draw (id := 16) 1000 (OT.seq [(0, 0), (1, 1), (0, 2), (0, 3), (0, 4), (1, 5), (0, 6), (0, 7), (0, 8), (0, 9), (0, 11), (0, 12), (0, 13), (1, 10), (1, 14), (2, 15), (0, 16), (0, 17), (1, 18), (0, 19), (0, 20)] .nil)); kernel_rfl; exact rfl; kernel_rfl; (repeat (first | with_reducible exact Blind.body | with_reducible apply Blind.seq | with_reducible apply Blind.block))) | ((with_reducible apply T_draw (id := 28) 1000 (OT.seq [(0, 0), (0, 1), (0, 2), (0, 3), (0, 4), (0, 5), (0, 6), (0, 8), (0, 9), (0, 10), (0, 11), (1, 7), (1, 12), (0, 13), (0, 14), (0, 15), (0, 16), (0, 17), (2, 18), (0, 19), (0, 20)] .nil)); kernel_rfl; exact rfl; kernel_rfl; (repeat (first | with_reducible exact Blind.body | with_reducible apply Blind.seq | with_reducible apply Blind.block))) | ((with_reducible apply T_draw (id := 30) 1000 (OT.seq [(0, 0), (0, 1), (0, 2), (0, 3), (0, 4), (0, 5), (0, 10), (0, 11), (0, 12), (0, 13), (1, 14), (2, 6), (0, 7), (0, 8), (1, 9), (0, 15), (0, 16)] .nil)); kernel_rfl; exact rfl; kernel_rfl; (repeat (first | with_reducible exact Blind.body | with_reducible apply Blind.seq | with_reducible apply Blind.block))) | fail)
          all_goals first
            | (exfalso; omega)
            | exact At_rounds (k + 1) ⟨hkl, fun i hi => (Nat.lt_succ_iff_lt_or_eq.1 hi).elim (fun e => hno i e) (fun e => by subst e; exact hq)⟩ (by omega) (by (repeat (first | exact SubE.nil _ | refine SubE.cons rfl ?_))) (by exact SUBS)
      · obtain rfl : k = cs.length := by omega
        have s3 := firstN_none hno
        clear hno hput
        repeat' (first | (refine GO ?_) | (refine GOE ?_; (first | (rintro _ _ ⟨rfl, rfl⟩) | (rintro _ _ ⟨g, rfl, rfl⟩) | (rintro _ _ ⟨A', c', rfl, rfl⟩))) | ((refine GO2 ?_ ?_) <;> intro h <;> (try (repeat (first | with_reducible (replace h := of_decide_eq_true h) | with_reducible (replace h := of_decide_eq_false h) | with_reducible (replace h := bnt h) | with_reducible (replace h := bnf h) | with_reducible (replace h := Int.not_lt.mp h) | with_reducible (replace h := Int.not_le.mp h) | with_reducible (replace h := band_dec h) | with_reducible (replace h := band_decF h) | with_reducible (replace h := bor_dec h) | with_reducible (replace h := bor_decF h)))) <;> (try (exfalso; first | contradiction | omega))) | fail)
        refine T_loop (X := Nat) (fun a => [(9, .int .i64 (a : Nat)), (2, .pointer (some ⟨gb, 0, none⟩)), (0, .slice A cs.length ca)]) (fun _ => [entBlk gb 48 #[.int .i64 0, .int .i64 0, .int .i64 0]]) (fun a => a ≤ 1001 ∧ ∀ i, i < a → ∀ q, q < 1001 → fifB cs i q = false) (fun a => 1001 - a) 1 ⟨by omega, fun i hi q _ => by have e : i = 0 := (by omega); rw [e]; exact fifB_0a hok q⟩ (by (repeat (first | exact SubE.nil _ | refine SubE.cons rfl ?_))) (by exact SUBS) ?_
        rintro a ⟨ha, hno⟩
        by_cases hal : a < 1001
        · have hpa := hpb (a : Nat)
          have hga := hgb (a : Nat)
          have hnx : (∀ q, q < 1001 → fifB cs a q = false) → ∀ i, i < a + 1 → ∀ q, q < 1001 → fifB cs i q = false := fun h i hi => (Nat.lt_succ_iff_lt_or_eq.1 hi).elim (fun e => hno i e) (fun e => by subst e; exact h)
          by_cases hpn : putBy cs (a : Nat) < 0
          · have hnx := hnx fun q _ => by rw [Bool.eq_false_iff]; intro e; have := of_decide_eq_true (fifB_key a q e).1; omega
            repeat' (first | (refine GO ?_) | (refine GOE ?_; (first | (rintro _ _ ⟨rfl, rfl⟩) | (rintro _ _ ⟨g, rfl, rfl⟩) | (rintro _ _ ⟨A', c', rfl, rfl⟩))) | ((refine GO2 ?_ ?_) <;> intro h <;> (try (repeat (first | with_reducible (replace h := of_decide_eq_true h) | with_reducible (replace h := of_decide_eq_false h) | with_reducible (replace h := bnt h) | with_reducible (replace h := bnf h) | with_reducible (replace h := Int.not_lt.mp h) | with_reducible (replace h := Int.not_le.mp h) | with_reducible (replace h := band_dec h) | with_reducible (replace h := band_decF h) | with_reducible (replace h := bor_dec h) | with_reducible (replace h := bor_decF h)))) <;> (try (exfalso; first | contradiction | omega))) | ((with_reducible (first | apply TD_e2z | apply TD_e3z | apply TL_e | apply TD_e2 | apply TD_e3)); ((with_reducible apply ES_callV (f := 72)); exact rfl; (intro w hw; exact hp _ w (hw.below0 rfl)); exact rfl); (first | exact rfl | exact ⟨rfl, rfl, rfl⟩); (rintro _ _ ⟨rfl, rfl⟩); (try refine ⟨SUB, ?_⟩)) | fail)
            all_goals first
              | (exfalso; omega)
              | exact At_rounds (a + 1) ⟨by omega, hnx⟩ (by omega) (by (repeat (first | exact SubE.nil _ | refine SubE.cons rfl ?_))) (by exact SUBS)
          · obtain ⟨bC, oC, rfl, _⟩ := RdE.open hA (by omega)
            have hpc := clK_eq (cs := cs) (i := (putBy cs (a : Nat)).toNat) (by omega)
            by_cases hto : cs[(putBy cs (a : Nat)).toNat].to = -1
            · have hnx := hnx fun q _ => by unfold fifB; rw [hpc, hto]; simp
              repeat' (first | (refine GO ?_) | (refine GOE ?_; (first | (rintro _ _ ⟨rfl, rfl⟩) | (rintro _ _ ⟨g, rfl, rfl⟩) | (rintro _ _ ⟨A', c', rfl, rfl⟩))) | ((refine GO2 ?_ ?_) <;> intro h <;> (try (repeat (first | with_reducible (replace h := of_decide_eq_true h) | with_reducible (replace h := of_decide_eq_false h) | with_reducible (replace h := bnt h) | with_reducible (replace h := bnf h) | with_reducible (replace h := Int.not_lt.mp h) | with_reducible (replace h := Int.not_le.mp h) | with_reducible (replace h := band_dec h) | with_reducible (replace h := band_decF h) | with_reducible (replace h := bor_dec h) | with_reducible (replace h := bor_decF h)))) <;> (try (exfalso; first | contradiction | omega))) | ((with_reducible (first | apply TD_e2z | apply TD_e3z | apply TL_e | apply TD_e2 | apply TD_e3)); ((with_reducible apply ES_callV (f := 72)); exact rfl; (intro w hw; exact hp _ w (hw.below0 rfl)); exact rfl); (first | exact rfl | exact ⟨rfl, rfl, rfl⟩); (rintro _ _ ⟨rfl, rfl⟩); (try refine ⟨SUB, ?_⟩)) | fail)
              all_goals first
                | (exfalso; omega)
                | exact At_rounds (a + 1) ⟨by omega, hnx⟩ (by omega) (by (repeat (first | exact SubE.nil _ | refine SubE.cons rfl ?_))) (by exact SUBS)
            · repeat' (first | (refine GO ?_) | (refine GOE ?_; (first | (rintro _ _ ⟨rfl, rfl⟩) | (rintro _ _ ⟨g, rfl, rfl⟩) | (rintro _ _ ⟨A', c', rfl, rfl⟩))) | ((refine GO2 ?_ ?_) <;> intro h <;> (try (repeat (first | with_reducible (replace h := of_decide_eq_true h) | with_reducible (replace h := of_decide_eq_false h) | with_reducible (replace h := bnt h) | with_reducible (replace h := bnf h) | with_reducible (replace h := Int.not_lt.mp h) | with_reducible (replace h := Int.not_le.mp h) | with_reducible (replace h := band_dec h) | with_reducible (replace h := band_decF h) | with_reducible (replace h := bor_dec h) | with_reducible (replace h := bor_decF h)))) <;> (try (exfalso; first | contradiction | omega))) | ((with_reducible (first | apply TD_e2z | apply TD_e3z | apply TL_e | apply TD_e2 | apply TD_e3)); ((with_reducible apply ES_callV (f := 72)); exact rfl; (intro w hw; exact hp _ w (hw.below0 rfl)); exact rfl); (first | exact rfl | exact ⟨rfl, rfl, rfl⟩); (rintro _ _ ⟨rfl, rfl⟩); (try refine ⟨SUB, ?_⟩)) | fail)
              all_goals first | (exfalso; omega) | skip
              refine T_loop (X := Nat) (fun b => [(11, .int .i64 (b : Nat)), (10, .int .i64 (putBy cs (a : Nat))), (9, .int .i64 (a : Nat)), (2, .pointer (some ⟨gb, 0, none⟩)), (0, .slice (some ⟨bC, oC, none⟩) cs.length ca)]) (fun _ => [entBlk gb 48 #[.int .i64 0, .int .i64 0, .int .i64 0]]) (fun b => b ≤ 1001 ∧ ∀ q, q < b → fifB cs a q = false) (fun b => 1001 - b) 1 ⟨by omega, fun q hq => by have e : q = 0 := (by omega); rw [e]; exact fifB_0b hok a⟩ (by (repeat (first | exact SubE.nil _ | refine SubE.cons rfl ?_))) (by exact SUBS) ?_
              rintro b ⟨hb, hno2⟩
              by_cases hbl : b < 1001
              · have hpb2 := hpb (b : Nat)
                have hgb2 := hgb (b : Nat)
                have hny : fifB cs a b = false → ∀ q, q < b + 1 → fifB cs a q = false := fun h q hq => (Nat.lt_succ_iff_lt_or_eq.1 hq).elim (fun e => hno2 q e) (fun e => by subst e; exact h)
                have hhit : fifB cs a b = true → rowsV cs = ⟨6, a, b⟩ := fun h => rows_4 s1 s2 s3 (firstP_at hal hbl hno hno2 h)
                by_cases hpn2 : putBy cs (b : Nat) < 0
                · have hny := hny (by rw [Bool.eq_false_iff]; intro e; have := of_decide_eq_true (fifB_key a b e).2; omega)
                  repeat' (first | (refine GG ?_) | (refine GE ?_; (first | (rintro _ _ ⟨rfl, rfl⟩) | (rintro _ _ ⟨g, rfl, rfl⟩) | (rintro _ _ ⟨A', c', rfl, rfl⟩)); (try refine ⟨SUB, ?_⟩)) | ((refine GO2 ?_ ?_) <;> intro h <;> (try (repeat (first | with_reducible (replace h := of_decide_eq_true h) | with_reducible (replace h := of_decide_eq_false h) | with_reducible (replace h := bnt h) | with_reducible (replace h := bnf h) | with_reducible (replace h := Int.not_lt.mp h) | with_reducible (replace h := Int.not_le.mp h) | with_reducible (replace h := band_dec h) | with_reducible (replace h := band_decF h) | with_reducible (replace h := bor_dec h) | with_reducible (replace h := bor_decF h)))) <;> (try (exfalso; first | contradiction | omega))) | (refine GOF ?_ ?_) | ((with_reducible apply T_draw (id := 16) 1000 (OT.seq [(0, 0), (1, 1), (0, 2), (0, 3), (0, 4), (1, 5), (0, 6), (0, 7), (0, 8), (0, 9), (0, 11), (0, 12), (0, 13), (1, 10), (1, 14), (2, 15), (0, 16), (0, 17), (1, 18), (0, 19), (0, 20)] .nil)); kernel_rfl; exact rfl; kernel_rfl; (repeat (first | with_reducible exact Blind.body | with_reducible apply Blind.seq | with_reducible apply Blind.block))) | ((with_reducible apply T_draw (id := 28) 1000 (OT.seq [(0, 0), (0, 1), (0, 2), (0, 3), (0, 4), (0, 5), (0, 6), (0, 8), (0, 9), (0, 10), (0, 11), (1, 7), (1, 12), (0, 13), (0, 14), (0, 15), (0, 16), (0, 17), (2, 18), (0, 19), (0, 20)] .nil)); kernel_rfl; exact rfl; kernel_rfl; (repeat (first | with_reducible exact Blind.body | with_reducible apply Blind.seq | with_reducible apply Blind.block))) | ((with_reducible apply T_draw (id := 30) 1000 (OT.seq [(0, 0), (0, 1), (0, 2), (0, 3), (0, 4), (0, 5), (0, 10), (0, 11), (0, 12), (0, 13), (1, 14), (2, 6), (0, 7), (0, 8), (1, 9), (0, 15), (0, 16)] .nil)); kernel_rfl; exact rfl; kernel_rfl; (repeat (first | with_reducible exact Blind.body | with_reducible apply Blind.seq | with_reducible apply Blind.block))) | ((with_reducible (first | apply TD_e2z | apply TD_e3z | apply TL_e | apply TD_e2 | apply TD_e3)); ((with_reducible apply ES_callV (f := 72)); exact rfl; (intro w hw; exact hp _ w (hw.below0 rfl)); exact rfl); (first | exact rfl | exact ⟨rfl, rfl, rfl⟩); (rintro _ _ ⟨rfl, rfl⟩); (try refine ⟨SUB, ?_⟩)) | fail)
                  all_goals first
                    | (exfalso; omega)
                    | exact At_rounds (b + 1) ⟨by omega, hny⟩ (by omega) (by (repeat (first | exact SubE.nil _ | refine SubE.cons rfl ?_))) (by exact SUBS)
                · have hpc2 := clK_eq (cs := cs) (i := (putBy cs (b : Nat)).toNat) (by omega)
                  have hf : fifB cs a b = ((decide (cs[(putBy cs (a : Nat)).toNat].to ≤ cs[(putBy cs (b : Nat)).toNat].from_)) && (decide (0 ≤ gotBy cs (b : Nat)) && (decide (gotBy cs (a : Nat) < 0) || decide ((clK cs (gotBy cs (b : Nat)).toNat).to < (clK cs (gotBy cs (a : Nat)).toNat).from_)))) := by
                    unfold fifB
                    rw [decide_eq_true (show 0 ≤ putBy cs (a : Nat) by omega), decide_eq_true (show 0 ≤ putBy cs (b : Nat) by omega), hpc, hpc2, decide_eq_true (show cs[(putBy cs (a : Nat)).toNat].to ≠ -1 from hto)]
                    rfl
                  by_cases hc1 : cs[(putBy cs (b : Nat)).toNat].from_ < cs[(putBy cs (a : Nat)).toNat].to ∨ gotBy cs (b : Nat) < 0
                  · have hny := hny (by rw [hf, Bool.eq_false_iff]; intro e; simp only [Bool.and_eq_true, decide_eq_true_eq] at e; omega)
                    repeat' (first | (refine GG ?_) | (refine GE ?_; (first | (rintro _ _ ⟨rfl, rfl⟩) | (rintro _ _ ⟨g, rfl, rfl⟩) | (rintro _ _ ⟨A', c', rfl, rfl⟩)); (try refine ⟨SUB, ?_⟩)) | ((refine GO2 ?_ ?_) <;> intro h <;> (try (repeat (first | with_reducible (replace h := of_decide_eq_true h) | with_reducible (replace h := of_decide_eq_false h) | with_reducible (replace h := bnt h) | with_reducible (replace h := bnf h) | with_reducible (replace h := Int.not_lt.mp h) | with_reducible (replace h := Int.not_le.mp h) | with_reducible (replace h := band_dec h) | with_reducible (replace h := band_decF h) | with_reducible (replace h := bor_dec h) | with_reducible (replace h := bor_decF h)))) <;> (try (exfalso; first | contradiction | omega))) | (refine GOF ?_ ?_) | ((with_reducible apply T_draw (id := 16) 1000 (OT.seq [(0, 0), (1, 1), (0, 2), (0, 3), (0, 4), (1, 5), (0, 6), (0, 7), (0, 8), (0, 9), (0, 11), (0, 12), (0, 13), (1, 10), (1, 14), (2, 15), (0, 16), (0, 17), (1, 18), (0, 19), (0, 20)] .nil)); kernel_rfl; exact rfl; kernel_rfl; (repeat (first | with_reducible exact Blind.body | with_reducible apply Blind.seq | with_reducible apply Blind.block))) | ((with_reducible apply T_draw (id := 28) 1000 (OT.seq [(0, 0), (0, 1), (0, 2), (0, 3), (0, 4), (0, 5), (0, 6), (0, 8), (0, 9), (0, 10), (0, 11), (1, 7), (1, 12), (0, 13), (0, 14), (0, 15), (0, 16), (0, 17), (2, 18), (0, 19), (0, 20)] .nil)); kernel_rfl; exact rfl; kernel_rfl; (repeat (first | with_reducible exact Blind.body | with_reducible apply Blind.seq | with_reducible apply Blind.block))) | ((with_reducible apply T_draw (id := 30) 1000 (OT.seq [(0, 0), (0, 1), (0, 2), (0, 3), (0, 4), (0, 5), (0, 10), (0, 11), (0, 12), (0, 13), (1, 14), (2, 6), (0, 7), (0, 8), (1, 9), (0, 15), (0, 16)] .nil)); kernel_rfl; exact rfl; kernel_rfl; (repeat (first | with_reducible exact Blind.body | with_reducible apply Blind.seq | with_reducible apply Blind.block))) | ((with_reducible (first | apply TD_e2z | apply TD_e3z | apply TL_e | apply TD_e2 | apply TD_e3)); ((with_reducible apply ES_callV (f := 72)); exact rfl; (intro w hw; exact hp _ w (hw.below0 rfl)); exact rfl); (first | exact rfl | exact ⟨rfl, rfl, rfl⟩); (rintro _ _ ⟨rfl, rfl⟩); (try refine ⟨SUB, ?_⟩)) | ((with_reducible (first | apply TD_e2z | apply TD_e3z | apply TL_e | apply TD_e2 | apply TD_e3)); ((with_reducible apply ES_callV (f := 73)); exact rfl; (intro w hw; exact hg _ w (hw.below0 rfl)); exact rfl); (first | exact rfl | exact ⟨rfl, rfl, rfl⟩); (rintro _ _ ⟨rfl, rfl⟩); (try refine ⟨SUB, ?_⟩)) | fail)
                    all_goals first
                      | (exfalso; omega)
                      | exact At_rounds (b + 1) ⟨by omega, hny⟩ (by omega) (by (repeat (first | exact SubE.nil _ | refine SubE.cons rfl ?_))) (by exact SUBS)
                  · rw [decide_eq_true (show cs[(putBy cs (a : Nat)).toNat].to ≤ cs[(putBy cs (b : Nat)).toNat].from_ by omega), decide_eq_true (show 0 ≤ gotBy cs (b : Nat) by omega), Bool.true_and, Bool.true_and] at hf
                    have hgc2 := clK_eq (cs := cs) (i := (gotBy cs (b : Nat)).toNat) (by omega)
                    rw [hgc2] at hf
                    by_cases hga0 : gotBy cs (a : Nat) < 0
                    · have hhit := hhit (by rw [hf, decide_eq_true hga0]; rfl)
                      repeat' (first | (refine GG ?_) | (refine GE ?_; (first | (rintro _ _ ⟨rfl, rfl⟩) | (rintro _ _ ⟨g, rfl, rfl⟩) | (rintro _ _ ⟨A', c', rfl, rfl⟩)); (try refine ⟨SUB, ?_⟩)) | ((refine GO2 ?_ ?_) <;> intro h <;> (try (repeat (first | with_reducible (replace h := of_decide_eq_true h) | with_reducible (replace h := of_decide_eq_false h) | with_reducible (replace h := bnt h) | with_reducible (replace h := bnf h) | with_reducible (replace h := Int.not_lt.mp h) | with_reducible (replace h := Int.not_le.mp h) | with_reducible (replace h := band_dec h) | with_reducible (replace h := band_decF h) | with_reducible (replace h := bor_dec h) | with_reducible (replace h := bor_decF h)))) <;> (try (exfalso; first | contradiction | omega))) | (refine GOF ?_ ?_) | ((with_reducible apply T_draw (id := 16) 1000 (OT.seq [(0, 0), (1, 1), (0, 2), (0, 3), (0, 4), (1, 5), (0, 6), (0, 7), (0, 8), (0, 9), (0, 11), (0, 12), (0, 13), (1, 10), (1, 14), (2, 15), (0, 16), (0, 17), (1, 18), (0, 19), (0, 20)] .nil)); kernel_rfl; exact rfl; kernel_rfl; (repeat (first | with_reducible exact Blind.body | with_reducible apply Blind.seq | with_reducible apply Blind.block))) | ((with_reducible apply T_draw (id := 28) 1000 (OT.seq [(0, 0), (0, 1), (0, 2), (0, 3), (0, 4), (0, 5), (0, 6), (0, 8), (0, 9), (0, 10), (0, 11), (1, 7), (1, 12), (0, 13), (0, 14), (0, 15), (0, 16), (0, 17), (2, 18), (0, 19), (0, 20)] .nil)); kernel_rfl; exact rfl; kernel_rfl; (repeat (first | with_reducible exact Blind.body | with_reducible apply Blind.seq | with_reducible apply Blind.block))) | ((with_reducible apply T_draw (id := 30) 1000 (OT.seq [(0, 0), (0, 1), (0, 2), (0, 3), (0, 4), (0, 5), (0, 10), (0, 11), (0, 12), (0, 13), (1, 14), (2, 6), (0, 7), (0, 8), (1, 9), (0, 15), (0, 16)] .nil)); kernel_rfl; exact rfl; kernel_rfl; (repeat (first | with_reducible exact Blind.body | with_reducible apply Blind.seq | with_reducible apply Blind.block))) | ((with_reducible (first | apply TD_e2z | apply TD_e3z | apply TL_e | apply TD_e2 | apply TD_e3)); ((with_reducible apply ES_callV (f := 72)); exact rfl; (intro w hw; exact hp _ w (hw.below0 rfl)); exact rfl); (first | exact rfl | exact ⟨rfl, rfl, rfl⟩); (rintro _ _ ⟨rfl, rfl⟩); (try refine ⟨SUB, ?_⟩)) | ((with_reducible (first | apply TD_e2z | apply TD_e3z | apply TL_e | apply TD_e2 | apply TD_e3)); ((with_reducible apply ES_callV (f := 73)); exact rfl; (intro w hw; exact hg _ w (hw.below0 rfl)); exact rfl); (first | exact rfl | exact ⟨rfl, rfl, rfl⟩); (rintro _ _ ⟨rfl, rfl⟩); (try refine ⟨SUB, ?_⟩)) | fail)
                      all_goals first
                        | (exfalso; omega)
                        | (((with_reducible apply At_retM Try.results25); (repeat (first | exact ResIs.nil | (apply ResIs.tmp; exact rfl) | (apply ResIs.cell; exact rfl; exact Lds.auto))); intro w' hw); rw [hhit]; exact ⟨rfl, hw.below0 rfl⟩)
                    · have hgc := clK_eq (cs := cs) (i := (gotBy cs (a : Nat)).toNat) (by omega)
                      rw [hgc, decide_eq_false hga0, Bool.false_or] at hf
                      repeat' (first | (refine GG ?_) | (refine GE ?_; (first | (rintro _ _ ⟨rfl, rfl⟩) | (rintro _ _ ⟨g, rfl, rfl⟩) | (rintro _ _ ⟨A', c', rfl, rfl⟩)); (try refine ⟨SUB, ?_⟩)) | ((refine GO2 ?_ ?_) <;> intro h <;> (try (repeat (first | with_reducible (replace h := of_decide_eq_true h) | with_reducible (replace h := of_decide_eq_false h) | with_reducible (replace h := bnt h) | with_reducible (replace h := bnf h) | with_reducible (replace h := Int.not_lt.mp h) | with_reducible (replace h := Int.not_le.mp h) | with_reducible (replace h := band_dec h) | with_reducible (replace h := band_decF h) | with_reducible (replace h := bor_dec h) | with_reducible (replace h := bor_decF h)))) <;> (try (exfalso; first | contradiction | omega))) | (refine GOF ?_ ?_) | ((with_reducible apply T_draw (id := 16) 1000 (OT.seq [(0, 0), (1, 1), (0, 2), (0, 3), (0, 4), (1, 5), (0, 6), (0, 7), (0, 8), (0, 9), (0, 11), (0, 12), (0, 13), (1, 10), (1, 14), (2, 15), (0, 16), (0, 17), (1, 18), (0, 19), (0, 20)] .nil)); kernel_rfl; exact rfl; kernel_rfl; (repeat (first | with_reducible exact Blind.body | with_reducible apply Blind.seq | with_reducible apply Blind.block))) | ((with_reducible apply T_draw (id := 28) 1000 (OT.seq [(0, 0), (0, 1), (0, 2), (0, 3), (0, 4), (0, 5), (0, 6), (0, 8), (0, 9), (0, 10), (0, 11), (1, 7), (1, 12), (0, 13), (0, 14), (0, 15), (0, 16), (0, 17), (2, 18), (0, 19), (0, 20)] .nil)); kernel_rfl; exact rfl; kernel_rfl; (repeat (first | with_reducible exact Blind.body | with_reducible apply Blind.seq | with_reducible apply Blind.block))) | ((with_reducible apply T_draw (id := 30) 1000 (OT.seq [(0, 0), (0, 1), (0, 2), (0, 3), (0, 4), (0, 5), (0, 10), (0, 11), (0, 12), (0, 13), (1, 14), (2, 6), (0, 7), (0, 8), (1, 9), (0, 15), (0, 16)] .nil)); kernel_rfl; exact rfl; kernel_rfl; (repeat (first | with_reducible exact Blind.body | with_reducible apply Blind.seq | with_reducible apply Blind.block))) | ((with_reducible (first | apply TD_e2z | apply TD_e3z | apply TL_e | apply TD_e2 | apply TD_e3)); ((with_reducible apply ES_callV (f := 72)); exact rfl; (intro w hw; exact hp _ w (hw.below0 rfl)); exact rfl); (first | exact rfl | exact ⟨rfl, rfl, rfl⟩); (rintro _ _ ⟨rfl, rfl⟩); (try refine ⟨SUB, ?_⟩)) | ((with_reducible (first | apply TD_e2z | apply TD_e3z | apply TL_e | apply TD_e2 | apply TD_e3)); ((with_reducible apply ES_callV (f := 73)); exact rfl; (intro w hw; exact hg _ w (hw.below0 rfl)); exact rfl); (first | exact rfl | exact ⟨rfl, rfl, rfl⟩); (rintro _ _ ⟨rfl, rfl⟩); (try refine ⟨SUB, ?_⟩)) | fail)
                      all_goals first
                        | (exfalso; omega)
                        | (((with_reducible apply At_retM Try.results25); (repeat (first | exact ResIs.nil | (apply ResIs.tmp; exact rfl) | (apply ResIs.cell; exact rfl; exact Lds.auto))); intro w' hw); rw [hhit (by rw [hf]; simp [*])]; exact ⟨rfl, hw.below0 rfl⟩)
                        | exact At_rounds (b + 1) ⟨by omega, hny (by rw [hf]; simp [*])⟩ (by omega) (by (repeat (first | exact SubE.nil _ | refine SubE.cons rfl ?_))) (by exact SUBS)
              · obtain rfl : b = 1001 := by omega
                have hnx := hnx hno2
                repeat' (first | (refine GO ?_) | (refine GOE ?_; (first | (rintro _ _ ⟨rfl, rfl⟩) | (rintro _ _ ⟨g, rfl, rfl⟩) | (rintro _ _ ⟨A', c', rfl, rfl⟩))) | ((refine GO2 ?_ ?_) <;> intro h <;> (try (repeat (first | with_reducible (replace h := of_decide_eq_true h) | with_reducible (replace h := of_decide_eq_false h) | with_reducible (replace h := bnt h) | with_reducible (replace h := bnf h) | with_reducible (replace h := Int.not_lt.mp h) | with_reducible (replace h := Int.not_le.mp h) | with_reducible (replace h := band_dec h) | with_reducible (replace h := band_decF h) | with_reducible (replace h := bor_dec h) | with_reducible (replace h := bor_decF h)))) <;> (try (exfalso; first | contradiction | omega))) | fail)
                all_goals first
                  | (exfalso; omega)
                  | exact At_rounds (a + 1) ⟨by omega, hnx⟩ (by omega) (by (repeat (first | exact SubE.nil _ | refine SubE.cons rfl ?_))) (by exact SUBS)
        · obtain rfl : a = 1001 := by omega
          have s4 := firstP_none hno
          clear hno
          rw [rows_5 s1 s2 s3 s4]
          clear s1 s2 s3 s4
          have hR : empV cs = match firstN cs.length (empB cs) with | some k => ⟨7, k, 0⟩ | none => ⟨0, 0, 0⟩ := rfl
          generalize empV cs = R at *
          repeat' (first | (refine GO ?_) | (refine GOE ?_; (first | (rintro _ _ ⟨rfl, rfl⟩) | (rintro _ _ ⟨g, rfl, rfl⟩) | (rintro _ _ ⟨A', c', rfl, rfl⟩))) | ((refine GO2 ?_ ?_) <;> intro h <;> (try (repeat (first | with_reducible (replace h := of_decide_eq_true h) | with_reducible (replace h := of_decide_eq_false h) | with_reducible (replace h := bnt h) | with_reducible (replace h := bnf h) | with_reducible (replace h := Int.not_lt.mp h) | with_reducible (replace h := Int.not_le.mp h) | with_reducible (replace h := band_dec h) | with_reducible (replace h := band_decF h) | with_reducible (replace h := bor_dec h) | with_reducible (replace h := bor_decF h)))) <;> (try (exfalso; first | contradiction | omega))) | fail)
          refine T_loop (X := Nat) (fun k => [(183, .int .i64 (k : Nat)), (182, .int .i64 cs.length), (181, .slice A cs.length ca), (2, .pointer (some ⟨gb, 0, none⟩)), (0, .slice A cs.length ca)]) (fun _ => [entBlk gb 48 #[.int .i64 0, .int .i64 0, .int .i64 0]]) (fun k => k ≤ cs.length ∧ ∀ i, i < k → empB cs i = false) (fun k => cs.length - k) 0 ⟨by omega, fun i hi => by omega⟩ (by (repeat (first | exact SubE.nil _ | refine SubE.cons rfl ?_))) (by exact SUBS) ?_
          rintro k ⟨hk, hno⟩
          by_cases hkl : k < cs.length
          · obtain ⟨bC, oC, rfl, _⟩ := RdE.open hA (by omega)
            have hck := clK_eq hkl
            have hfr := hok.frm k hkl
            have hto := hok.to k hkl
            have hem : empB cs k = ((decide (cs[k].kind = 4) && decide (cs[k].res = -1)) && alwP cs k (cs[k].to - cs[k].from_).toNat) := by unfold empB alwB alwP; rw [hck]
            have hal := fun d => alwP_succ cs k d
            rw [hck] at hfr hto hal
            have hnx : empB cs k = false → ∀ i, i < k + 1 → empB cs i = false := fun hb i hi => (Nat.lt_succ_iff_lt_or_eq.1 hi).elim (fun e => hno i e) (fun e => by subst e; exact hb)
            repeat' (first | (refine GO ?_) | (refine GOE ?_; (first | (rintro _ _ ⟨rfl, rfl⟩) | (rintro _ _ ⟨g, rfl, rfl⟩) | (rintro _ _ ⟨A', c', rfl, rfl⟩))) | ((refine GO2 ?_ ?_) <;> intro h <;> (try (repeat (first | with_reducible (replace h := of_decide_eq_true h) | with_reducible (replace h := of_decide_eq_false h) | with_reducible (replace h := bnt h) | with_reducible (replace h := bnf h) | with_reducible (replace h := Int.not_lt.mp h) | with_reducible (replace h := Int.not_le.mp h) | with_reducible (replace h := band_dec h) | with_reducible (replace h := band_decF h) | with_reducible (replace h := bor_dec h) | with_reducible (replace h := bor_decF h)))) <;> (try (exfalso; first | contradiction | omega))) | fail)
            obtain ⟨g15, rfl⟩ : ∃ x, x = g := ⟨_, rfl⟩
            by_cases hcr : cs[k].kind = 4 ∧ cs[k].res = -1
            · obtain ⟨h4, hr⟩ := hcr
              refine T_loop (X := Nat) (fun d => [(17, .int .i64 (cs[k].from_ + (d : Nat))), (16, .bool (!alwP cs k d)), (15, .pointer (some ⟨g15, 0, none⟩)), (14, .int .i64 (k : Nat)), (183, .int .i64 (k : Nat)), (182, .int .i64 cs.length), (181, .slice (some ⟨bC, oC, none⟩) cs.length ca), (2, .pointer (some ⟨gb, 0, none⟩)), (0, .slice (some ⟨bC, oC, none⟩) cs.length ca)]) (fun _ => [entBlk g15 43 (Cl.enc cs[k]).toArray, entBlk gb 48 #[.int .i64 0, .int .i64 0, .int .i64 0]])
                (fun d => d ≤ (cs[k].to - cs[k].from_).toNat) (fun d => (cs[k].to - cs[k].from_).toNat - d) 0 (by omega) (by
                  (try dsimp only)
                  rw [show cs[k].from_ + ((0 : Nat) : Int) = cs[k].from_ by omega, show (!alwP cs k 0) = false from rfl]
                  (repeat (first | exact SubE.nil _ | refine SubE.cons rfl ?_))) (fun w' hw => hw.sel (by (repeat (first | exact Sel.nil _ | (apply Sel.cons; (repeat (first | with_reducible exact Pick.here _ _ | with_reducible apply Pick.there))))))) ?_
              intro d hd
              have had := hal d
              by_cases hdl : cs[k].from_ + (d : Nat) < cs[k].to
              · have hfa := fullC_all hok (cs[k].from_ + (d : Nat))
                have hfs := fun q => fullC_succ (cs := cs) (cs[k].from_ + (d : Nat)) q
                have hf0 : fullC cs (cs[k].from_ + (d : Nat)) 0 = false := rfl
                rw [← hfa] at had
                clear hfa
                generalize alwP cs k d = B at *
                repeat' (first | (refine GO ?_) | (refine GOE ?_; (first | (rintro _ _ ⟨rfl, rfl⟩) | (rintro _ _ ⟨g, rfl, rfl⟩) | (rintro _ _ ⟨A', c', rfl, rfl⟩))) | ((refine GO2 ?_ ?_) <;> intro h <;> (try (repeat (first | with_reducible (replace h := of_decide_eq_true h) | with_reducible (replace h := of_decide_eq_false h) | with_reducible (replace h := bnt h) | with_reducible (replace h := bnf h) | with_reducible (replace h := Int.not_lt.mp h) | with_reducible (replace h := Int.not_le.mp h) | with_reducible (replace h := band_dec h) | with_reducible (replace h := band_decF h) | with_reducible (replace h := bor_dec h) | with_reducible (replace h := bor_decF h)))) <;> (try (exfalso; first | contradiction | omega))) | fail)
                refine T_loop (X := Nat) (fun q => [(208, .int .i64 (q : Nat)), (207, .int .i64 cs.length), (206, .slice (some ⟨bC, oC, none⟩) cs.length ca), (18, .bool (fullC cs (cs[k].from_ + (d : Nat)) q)), (17, .int .i64 (cs[k].from_ + (d : Nat))), (16, .bool (!B)), (15, .pointer (some ⟨g15, 0, none⟩)), (14, .int .i64 (k : Nat)), (183, .int .i64 (k : Nat)), (182, .int .i64 cs.length), (181, .slice (some ⟨bC, oC, none⟩) cs.length ca), (2, .pointer (some ⟨gb, 0, none⟩)), (0, .slice (some ⟨bC, oC, none⟩) cs.length ca)]) (fun _ => [entBlk g15 43 (Cl.enc cs[k]).toArray, entBlk gb 48 #[.int .i64 0, .int .i64 0, .int .i64 0]])
                  (fun q => q ≤ cs.length) (fun q => cs.length - q) 0 (by omega) (by (try dsimp only); rw [hf0]; (repeat (first | exact SubE.nil _ | refine SubE.cons rfl ?_))) (fun w' hw => hw.sel (by (repeat (first | exact Sel.nil _ | (apply Sel.cons; (repeat (first | with_reducible exact Pick.here _ _ | with_reducible apply Pick.there))))))) ?_
                intro q hq
                have hs := hfs q
                by_cases hql : q < cs.length
                · have hcq := clK_eq hql
                  rw [hcq] at hs
                  generalize fullC cs (cs[k].from_ + (d : Nat)) q = F at *
                  by_cases hk3 : cs[q].kind = 3
                  · have hsq := hso cs[q].arg
                    have hsv : (stayB cs cs[q].arg && inB (stayE cs cs[q].arg) (cs[k].from_ + (d : Nat))) = ((stayV cs cs[q].arg).2 && (decide ((stayV cs cs[q].arg).1.frm ≤ cs[k].from_ + (d : Nat)) && decide (cs[k].from_ + (d : Nat) ≤ (stayV cs cs[q].arg).1.til))) := by
                      rw [stayV_b]
                      cases hb : stayB cs cs[q].arg
                      · rfl
                      · rw [stayV_e hb]; rfl
                    rw [decide_eq_true hk3, Bool.true_and, hsv] at hs
                    clear hsv
                    generalize stayV cs cs[q].arg = SV at *
                    obtain ⟨⟨sf, st⟩, sb⟩ := SV
                    rw [show Spn.enc ⟨sf, st⟩ = [.int .i64 sf, .int .i64 st] from rfl] at hsq
                    dsimp only at hs hsq
                    have hs := Lib.hid hs
                    clear had hf0 hfs hal hno hR hem hnx hso hpb hgb hp hg hfr hto hcq hck
                    have hbt := fun w => between_C (cs[k].from_ + (d : Nat)) sf st w
                    generalize cs[k].from_ + (d : Nat) = tt at *
                    generalize hBt : (decide (sf ≤ tt) && decide (tt ≤ st)) = Bt at *
                    repeat' (first | (refine GO ?_) | (refine GOE ?_; (first | (rintro _ _ ⟨rfl, rfl⟩) | (rintro _ _ ⟨g, rfl, rfl⟩) | (rintro _ _ ⟨A', c', rfl, rfl⟩))) | ((refine GO2 ?_ ?_) <;> intro h <;> (try (repeat (first | with_reducible (replace h := of_decide_eq_true h) | with_reducible (replace h := of_decide_eq_false h) | with_reducible (replace h := bnt h) | with_reducible (replace h := bnf h) | with_reducible (replace h := Int.not_lt.mp h) | with_reducible (replace h := Int.not_le.mp h) | with_reducible (replace h := band_dec h) | with_reducible (replace h := band_decF h) | with_reducible (replace h := bor_dec h) | with_reducible (replace h := bor_decF h)))) <;> (try (exfalso; first | contradiction | omega))) | ((with_reducible (first | apply TD_e2z | apply TD_e3z | apply TL_e | apply TD_e2 | apply TD_e3)); ((with_reducible apply ES_callV (f := 24)); exact rfl; (intro w hw; exact hsq w (hw.below0 rfl)); exact rfl); (first | exact rfl | exact ⟨rfl, rfl, rfl⟩); (rintro _ _ ⟨rfl, rfl⟩); (try refine ⟨SUB, ?_⟩)) | ((with_reducible (first | apply TD_e2z | apply TD_e3z | apply TL_e | apply TD_e2 | apply TD_e3)); ((with_reducible apply ES_callV (f := 14)); exact rfl; (intro w hw; exact hbt w); exact rfl); (first | exact rfl | exact ⟨rfl, rfl, rfl⟩); (rintro _ _ ⟨rfl, rfl⟩); (try refine ⟨SUB, ?_⟩)) | fail)
                    all_goals
                      apply At_rounds (q + 1)
                      case hE =>
                        have hs := hs.out
                        (try dsimp only)
                        rw [hs]
                        first
                          | (simp only [show F = true by assumption, Bool.true_or]; (repeat (first | exact SubE.nil _ | refine SubE.cons rfl ?_)); done)
                          | (simp only [show F = false by assumption, show sb = true by assumption, Bool.false_or, Bool.true_and]; (repeat (first | exact SubE.nil _ | refine SubE.cons rfl ?_)); done)
                          | (simp only [show F = false by assumption, show sb = false by assumption, Bool.false_or, Bool.false_and]; (repeat (first | exact SubE.nil _ | refine SubE.cons rfl ?_)); done)
                      case hS => exact fun w' hw => hw.sel (by (repeat (first | exact Sel.nil _ | (apply Sel.cons; (repeat (first | with_reducible exact Pick.here _ _ | with_reducible apply Pick.there))))))
                      case hμ => (try dsimp only); omega
                      case hp => (try dsimp only); omega
                  · rw [decide_eq_false hk3, Bool.false_and, Bool.or_false] at hs
                    repeat' (first | (refine GO ?_) | (refine GOE ?_; (first | (rintro _ _ ⟨rfl, rfl⟩) | (rintro _ _ ⟨g, rfl, rfl⟩) | (rintro _ _ ⟨A', c', rfl, rfl⟩))) | ((refine GO2 ?_ ?_) <;> intro h <;> (try (repeat (first | with_reducible (replace h := of_decide_eq_true h) | with_reducible (replace h := of_decide_eq_false h) | with_reducible (replace h := bnt h) | with_reducible (replace h := bnf h) | with_reducible (replace h := Int.not_lt.mp h) | with_reducible (replace h := Int.not_le.mp h) | with_reducible (replace h := band_dec h) | with_reducible (replace h := band_decF h) | with_reducible (replace h := bor_dec h) | with_reducible (replace h := bor_decF h)))) <;> (try (exfalso; first | contradiction | omega))) | fail)
                    apply At_rounds (q + 1)
                    case hE => (try dsimp only); rw [hs]; (repeat (first | exact SubE.nil _ | refine SubE.cons rfl ?_))
                    case hS => exact fun w' hw => hw.sel (by (repeat (first | exact Sel.nil _ | (apply Sel.cons; (repeat (first | with_reducible exact Pick.here _ _ | with_reducible apply Pick.there))))))
                    case hμ => (try dsimp only); omega
                    case hp => (try dsimp only); omega
                · obtain rfl : q = cs.length := by omega
                  generalize fullC cs (cs[k].from_ + (d : Nat)) cs.length = F at *
                  repeat' (first | (refine GO ?_) | (refine GOE ?_; (first | (rintro _ _ ⟨rfl, rfl⟩) | (rintro _ _ ⟨g, rfl, rfl⟩) | (rintro _ _ ⟨A', c', rfl, rfl⟩))) | ((refine GO2 ?_ ?_) <;> intro h <;> (try (repeat (first | with_reducible (replace h := of_decide_eq_true h) | with_reducible (replace h := of_decide_eq_false h) | with_reducible (replace h := bnt h) | with_reducible (replace h := bnf h) | with_reducible (replace h := Int.not_lt.mp h) | with_reducible (replace h := Int.not_le.mp h) | with_reducible (replace h := band_dec h) | with_reducible (replace h := band_decF h) | with_reducible (replace h := bor_dec h) | with_reducible (replace h := bor_decF h)))) <;> (try (exfalso; first | contradiction | omega))) | fail)
                  all_goals
                    apply At_rounds (d + 1)
                    case hE => (try dsimp only); rw [had, show cs[k].from_ + ((d + 1 : Nat) : Int) = cs[k].from_ + (d : Nat) + 1 by omega]; simp only [h, Bool.true_and, Bool.false_and, Bool.not_false]; (repeat (first | exact SubE.nil _ | refine SubE.cons rfl ?_))
                    case hS => exact fun w' hw => hw.sel (by (repeat (first | exact Sel.nil _ | (apply Sel.cons; (repeat (first | with_reducible exact Pick.here _ _ | with_reducible apply Pick.there))))))
                    case hμ => (try dsimp only); omega
                    case hp => (try dsimp only); omega
              · obtain rfl : d = (cs[k].to - cs[k].from_).toNat := by omega
                rw [decide_eq_true h4, decide_eq_true hr, Bool.true_and, Bool.true_and] at hem
                generalize alwP cs k (cs[k].to - cs[k].from_).toNat = B at *
                repeat' (first | (refine GO ?_) | (refine GOE ?_; (first | (rintro _ _ ⟨rfl, rfl⟩) | (rintro _ _ ⟨g, rfl, rfl⟩) | (rintro _ _ ⟨A', c', rfl, rfl⟩))) | ((refine GO2 ?_ ?_) <;> intro h <;> (try (repeat (first | with_reducible (replace h := of_decide_eq_true h) | with_reducible (replace h := of_decide_eq_false h) | with_reducible (replace h := bnt h) | with_reducible (replace h := bnf h) | with_reducible (replace h := Int.not_lt.mp h) | with_reducible (replace h := Int.not_le.mp h) | with_reducible (replace h := band_dec h) | with_reducible (replace h := band_decF h) | with_reducible (replace h := bor_dec h) | with_reducible (replace h := bor_decF h)))) <;> (try (exfalso; first | contradiction | omega))) | fail)
                all_goals first
                  | (((with_reducible apply At_retM Try.results25); (repeat (first | exact ResIs.nil | (apply ResIs.tmp; exact rfl) | (apply ResIs.cell; exact rfl; exact Lds.auto))); intro w' hw); rw [firstN_at hkl hno (by rw [hem]; assumption)] at hR; subst hR; exact ⟨rfl, hw.below0 rfl⟩)
                  | exact At_rounds (k + 1) ⟨hkl, hnx (by rw [hem]; assumption)⟩ (by omega) (by (repeat (first | exact SubE.nil _ | refine SubE.cons rfl ?_))) (fun w' hw => hw.sel (by (repeat (first | exact Sel.nil _ | (apply Sel.cons; (repeat (first | with_reducible exact Pick.here _ _ | with_reducible apply Pick.there)))))))
            · have hnx := hnx (by rw [hem, Bool.eq_false_iff]; intro e; simp only [Bool.and_eq_true, decide_eq_true_eq] at e; exact hcr e.1)
              refine T_loop (X := Unit) (fun _ => [(17, .int .i64 cs[k].from_), (16, .bool false), (15, .pointer (some ⟨g15, 0, none⟩)), (14, .int .i64 (k : Nat)), (183, .int .i64 (k : Nat)), (182, .int .i64 cs.length), (181, .slice (some ⟨bC, oC, none⟩) cs.length ca), (2, .pointer (some ⟨gb, 0, none⟩)), (0, .slice (some ⟨bC, oC, none⟩) cs.length ca)]) (fun _ => [entBlk g15 43 (Cl.enc cs[k]).toArray, entBlk gb 48 #[.int .i64 0, .int .i64 0, .int .i64 0]]) (fun _ => True) (fun _ => 0) () trivial (by (repeat (first | exact SubE.nil _ | refine SubE.cons rfl ?_))) (fun w' hw => hw.sel (by (repeat (first | exact Sel.nil _ | (apply Sel.cons; (repeat (first | with_reducible exact Pick.here _ _ | with_reducible apply Pick.there))))))) ?_
              rintro ⟨⟩ -
              repeat' (first | (refine GO ?_) | (refine GOE ?_; (first | (rintro _ _ ⟨rfl, rfl⟩) | (rintro _ _ ⟨g, rfl, rfl⟩) | (rintro _ _ ⟨A', c', rfl, rfl⟩))) | ((refine GO2 ?_ ?_) <;> intro h <;> (try (repeat (first | with_reducible (replace h := of_decide_eq_true h) | with_reducible (replace h := of_decide_eq_false h) | with_reducible (replace h := bnt h) | with_reducible (replace h := bnf h) | with_reducible (replace h := Int.not_lt.mp h) | with_reducible (replace h := Int.not_le.mp h) | with_reducible (replace h := band_dec h) | with_reducible (replace h := band_decF h) | with_reducible (replace h := bor_dec h) | with_reducible (replace h := bor_decF h)))) <;> (try (exfalso; first | contradiction | omega))) | fail)
              all_goals first
                | (exfalso; omega)
                | exact At_rounds (k + 1) ⟨hkl, hnx⟩ (by omega) (by (repeat (first | exact SubE.nil _ | refine SubE.cons rfl ?_))) (fun w' hw => hw.sel (by (repeat (first | exact Sel.nil _ | (apply Sel.cons; (repeat (first | with_reducible exact Pick.here _ _ | with_reducible apply Pick.there)))))))
          · obtain rfl : k = cs.length := by omega
            rw [firstN_none hno] at hR
            subst hR
            repeat' (first | (refine GO ?_) | (refine GOE ?_; (first | (rintro _ _ ⟨rfl, rfl⟩) | (rintro _ _ ⟨g, rfl, rfl⟩) | (rintro _ _ ⟨A', c', rfl, rfl⟩))) | ((refine GO2 ?_ ?_) <;> intro h <;> (try (repeat (first | with_reducible (replace h := of_decide_eq_true h) | with_reducible (replace h := of_decide_eq_false h) | with_reducible (replace h := bnt h) | with_reducible (replace h := bnf h) | with_reducible (replace h := Int.not_lt.mp h) | with_reducible (replace h := Int.not_le.mp h) | with_reducible (replace h := band_dec h) | with_reducible (replace h := band_decF h) | with_reducible (replace h := bor_dec h) | with_reducible (replace h := bor_decF h)))) <;> (try (exfalso; first | contradiction | omega))) | fail)
            ((with_reducible apply At_retM Try.results25); (repeat (first | exact ResIs.nil | (apply ResIs.tmp; exact rfl) | (apply ResIs.cell; exact rfl; exact Lds.auto))); intro w' hw)
            exact ⟨rfl, hw.below0 rfl⟩
end
end Go.Proofs.Ytbhjljnbjomnhaa
