/- Lemmas for the walks (Tk4). No condition. -/
import Derived.Test.YtbhjljnbjomnhaaG10
set_option linter.unusedSimpArgs false
set_option linter.unusedVariables false
set_option linter.unusedSectionVars false
set_option linter.unnecessarySimpa false
namespace Go.Proofs.Ytbhjljnbjomnhaa
open Go.RowKit

theorem mostK_next (cs : List Cl) (k : Nat) : mostK cs (k + 1) = if (clK cs k).to = -1 then mostK cs k else if mostK cs k < (clK cs k).res then (clK cs k).res else mostK cs k := by
  rw [mostK]
  split
  · rfl
  · split <;> omega
theorem numT_bd1 {cs : List Cl} (h : TkOk cs) : numT cs ≤ 1001 := by
  have := mostK_bd h cs.length (Nat.le_refl _)
  unfold numT; omega
def numR (cs : List Cl) : List Nat := if (checkT cs).kind = 0 then numsT cs else []
theorem numsT_succ (cs : List Cl) (n : Nat) : (List.range (n + 1)).map (whoT cs) = (List.range n).map (whoT cs) ++ [whoT cs n] := by rw [List.range_succ, List.map_append]; rfl
theorem canT_no {cs : List Cl} {i n k : Nat} (hk : k < cs.length) (h : lateB cs i n cs[k] = true) : canT cs i n = false := by
  unfold canT
  rw [List.any_eq_true.2 ⟨_, List.getElem_mem hk, h⟩]; rfl
theorem canT_yes {cs : List Cl} {i n : Nat} (h : ∀ q (hq : q < cs.length), lateB cs i n cs[q] = false) : canT cs i n = true := by
  unfold canT
  rw [Bool.not_eq_true', List.any_eq_false]
  intro x hx
  obtain ⟨q, hq, rfl⟩ := List.mem_iff_getElem.1 hx
  rw [h q hq]; decide
theorem missing_res {cs : List Cl} {n k : Nat} (h : hasT cs n = false) (hk : k < cs.length) (ht : cs[k].to ≠ -1) : cs[k].res ≠ (n : Int) := fun e => by
  unfold hasT at h
  rw [hasK_of hk (by rw [clK_eq hk]; exact ht) (by rw [clK_eq hk]; exact e)] at h
  cases h
section
variable (A : Option Addr) (ca : Nat) (cs : List Cl) (w : World) (hA : RdE Cl.enc 7 w A cs) (hok : TkOk cs) (hca : cs.length ≤ ca)
include hA hok hca
set_option maxRecDepth 100000 in
set_option maxHeartbeats 16000000 in
theorem numbered_any : Calls Try.prog 20 #[.slice A cs.length ca] w fun e w' => ∃ A' c', e = .returned (.tuple #[.slice A' (numR cs).length c', .agg (Bd.enc (checkT cs)).toArray]) ∧ Own natEnc 1 3 w' w.heap.size (.slice A' (numR cs).length c') (numR cs) ∧ Below w.heap.size w w' := by
  have h200 := hok.few
  have hmb := mostK_bd hok
  have hml : (missT cs).length = (missK cs (numT cs)).length := rfl
  have hpl : (pendT cs).length ≤ cs.length := pendK_len cs cs.length
  have hnb : ((numT cs : Nat) : Int) = mostK cs cs.length + 1 := by have := hmb cs.length (Nat.le_refl _); unfold numT; omega
  have hfin : ∀ V : Bd, checkT cs = V → V.kind ≠ 0 → numR cs = [] := fun V e h => by unfold numR; rw [e, if_neg h]
  have hchk : checkT cs = match firstP cs.length (fun i => i) (twB cs) with
    | some (i, k) => ⟨2, i, k⟩
    | none => match firstP cs.length (fun _ => cs.length) (ordB cs) with
      | some (i, k) => ⟨6, i, k⟩
      | none => match firstN (missT cs).length (gapB cs) with
        | some k => ⟨8, ((missT cs).getD k 0 : Nat), 0⟩
        | none => ⟨0, 0, 0⟩ := rfl
  refine calls_T (S := []) [] Try.func20 rfl Try.ntmps20 (by simp) (Mem.nil _) ?_
  repeat' (first | ((first | with_reducible (first | apply TL_q | apply TD_q0 | apply TD_q1 | apply TD_q2 | apply TD_q3) | ((with_reducible (first | apply TD_q0y | apply TD_q1y)); exact rfl; exact rfl; (with_reducible exact rfl))); (first | ((with_reducible apply QS_sliceHigh); exact rfl; exact rfl; omega) | ((with_reducible apply QS_sliceLow (l := 1)); exact rfl; exact rfl; omega) | exact QS.auto); exact rfl) | (refine GO ?_) | (refine GOE ?_; (first | (rintro _ _ ⟨rfl, rfl⟩) | (rintro _ _ ⟨g, rfl, rfl⟩) | (rintro _ _ ⟨A', c', rfl, rfl⟩))) | ((refine GO2 ?_ ?_) <;> intro h <;> (try (repeat (first | with_reducible (replace h := of_decide_eq_true h) | with_reducible (replace h := of_decide_eq_false h) | with_reducible (replace h := bnt h) | with_reducible (replace h := bnf h) | with_reducible (replace h := Int.not_lt.mp h) | with_reducible (replace h := Int.not_le.mp h) | with_reducible (replace h := band_dec h) | with_reducible (replace h := band_decF h) | with_reducible (replace h := bor_dec h) | with_reducible (replace h := bor_decF h)))) <;> (try (exfalso; first | contradiction | omega))) | fail)
  obtain ⟨gb, rfl⟩ : ∃ x, x = g := ⟨_, rfl⟩
  refine T_loop (X := Nat) (fun i => [(25, .int .i64 (i : Nat)), (4, .int .i64 (mostK cs i)), (24, .int .i64 cs.length), (23, .slice A cs.length ca), (3, .pointer (some ⟨gb, 0, none⟩)), (0, .slice A cs.length ca)]) (fun _ => [entBlk gb 48 #[.int .i64 0, .int .i64 0, .int .i64 0]]) (fun i => i ≤ cs.length ∧ ∀ j, j < i → ∀ q, q < j → twB cs j q = false) (fun i => cs.length - i) 0 ⟨by omega, fun j hj => by omega⟩ (by (repeat (first | exact SubE.nil _ | refine SubE.cons rfl ?_))) (by exact SUBS) ?_
  rintro i ⟨hi, hno⟩
  by_cases hil : i < cs.length
  · obtain ⟨bC, oC, rfl, _⟩ := RdE.open hA (by omega)
    have hmn := mostK_next cs i
    rw [clK_eq hil] at hmn
    generalize mostK cs i = m at *
    repeat' (first | ((first | with_reducible (first | apply TL_q | apply TD_q0 | apply TD_q1 | apply TD_q2 | apply TD_q3) | ((with_reducible (first | apply TD_q0y | apply TD_q1y)); exact rfl; exact rfl; (with_reducible exact rfl))); (first | ((with_reducible apply QS_sliceHigh); exact rfl; exact rfl; omega) | ((with_reducible apply QS_sliceLow (l := 1)); exact rfl; exact rfl; omega) | exact QS.auto); exact rfl) | (refine GO ?_) | (refine GOE ?_; (first | (rintro _ _ ⟨rfl, rfl⟩) | (rintro _ _ ⟨g, rfl, rfl⟩) | (rintro _ _ ⟨A', c', rfl, rfl⟩))) | ((refine GO2 ?_ ?_) <;> intro h <;> (try (repeat (first | with_reducible (replace h := of_decide_eq_true h) | with_reducible (replace h := of_decide_eq_false h) | with_reducible (replace h := bnt h) | with_reducible (replace h := bnf h) | with_reducible (replace h := Int.not_lt.mp h) | with_reducible (replace h := Int.not_le.mp h) | with_reducible (replace h := band_dec h) | with_reducible (replace h := band_decF h) | with_reducible (replace h := bor_dec h) | with_reducible (replace h := bor_decF h)))) <;> (try (exfalso; first | contradiction | omega))) | fail)
    obtain ⟨g6, rfl⟩ : ∃ x, x = g := ⟨_, rfl⟩
    refine T_loop (X := Nat) (fun k => [(34, .int .i64 (k : Nat)), (33, .int .i64 (i : Nat)), (32, .slice (some ⟨bC, oC, none⟩) i ca), (6, .pointer (some ⟨g6, 0, none⟩)), (5, .int .i64 (i : Nat)), (25, .int .i64 (i : Nat)), (4, .int .i64 m), (24, .int .i64 cs.length), (23, .slice (some ⟨bC, oC, none⟩) cs.length ca), (3, .pointer (some ⟨gb, 0, none⟩)), (0, .slice (some ⟨bC, oC, none⟩) cs.length ca)]) (fun _ => [entBlk g6 43 (Cl.enc cs[i]).toArray, entBlk gb 48 #[.int .i64 0, .int .i64 0, .int .i64 0]])
      (fun k => k ≤ i ∧ ∀ q, q < k → twB cs i q = false) (fun k => i - k) 0 ⟨by omega, fun q hq => by omega⟩ (by (repeat (first | exact SubE.nil _ | refine SubE.cons rfl ?_))) (by exact SUBS) ?_
    rintro k ⟨hk, hno2⟩
    by_cases hki : k < i
    · have htw := twB_eq hil (show k < cs.length by omega)
      repeat' (first | ((first | with_reducible (first | apply TL_q | apply TD_q0 | apply TD_q1 | apply TD_q2 | apply TD_q3) | ((with_reducible (first | apply TD_q0y | apply TD_q1y)); exact rfl; exact rfl; (with_reducible exact rfl))); (first | ((with_reducible apply QS_sliceHigh); exact rfl; exact rfl; omega) | ((with_reducible apply QS_sliceLow (l := 1)); exact rfl; exact rfl; omega) | exact QS.auto); exact rfl) | (refine GO ?_) | (refine GOE ?_; (first | (rintro _ _ ⟨rfl, rfl⟩) | (rintro _ _ ⟨g, rfl, rfl⟩) | (rintro _ _ ⟨A', c', rfl, rfl⟩))) | ((refine GO2 ?_ ?_) <;> intro h <;> (try (repeat (first | with_reducible (replace h := of_decide_eq_true h) | with_reducible (replace h := of_decide_eq_false h) | with_reducible (replace h := bnt h) | with_reducible (replace h := bnf h) | with_reducible (replace h := Int.not_lt.mp h) | with_reducible (replace h := Int.not_le.mp h) | with_reducible (replace h := band_dec h) | with_reducible (replace h := band_decF h) | with_reducible (replace h := bor_dec h) | with_reducible (replace h := bor_decF h)))) <;> (try (exfalso; first | contradiction | omega))) | fail)
      all_goals
        first
          | (((with_reducible apply At_retM Try.results20); (repeat (first | exact ResIs.nil | (apply ResIs.tmp; exact rfl) | (apply ResIs.cell; exact rfl; exact Lds.auto))); intro w' hw); have hV : checkT cs = ⟨2, i, k⟩ := (by rw [hchk, firstP_at hil hki hno hno2 (by rw [htw]; simp [*])]); rw [hfin _ hV (show (2 : Int) ≠ 0 by decide), hV]; exact ⟨none, 0, rfl, Own.nil _ _, hw.below0 rfl⟩)
          | exact At_rounds (k + 1) ⟨hki, fun q hq => (Nat.lt_succ_iff_lt_or_eq.1 hq).elim (fun e => hno2 q e) (fun e => by subst e; rw [htw]; simp [*])⟩ (by omega) (by (repeat (first | exact SubE.nil _ | refine SubE.cons rfl ?_))) (by exact SUBS)
    · obtain rfl : k = i := by omega
      have hno3 : ∀ j, j < k + 1 → ∀ q, q < j → twB cs j q = false := fun j hj => (Nat.lt_succ_iff_lt_or_eq.1 hj).elim (fun e => hno j e) (fun e => by subst e; exact hno2)
      by_cases ht : cs[k].to = -1
      · rw [if_pos ht] at hmn
        repeat' (first | ((first | with_reducible (first | apply TL_q | apply TD_q0 | apply TD_q1 | apply TD_q2 | apply TD_q3) | ((with_reducible (first | apply TD_q0y | apply TD_q1y)); exact rfl; exact rfl; (with_reducible exact rfl))); (first | ((with_reducible apply QS_sliceHigh); exact rfl; exact rfl; omega) | ((with_reducible apply QS_sliceLow (l := 1)); exact rfl; exact rfl; omega) | exact QS.auto); exact rfl) | (refine GO ?_) | (refine GOE ?_; (first | (rintro _ _ ⟨rfl, rfl⟩) | (rintro _ _ ⟨g, rfl, rfl⟩) | (rintro _ _ ⟨A', c', rfl, rfl⟩))) | ((refine GO2 ?_ ?_) <;> intro h <;> (try (repeat (first | with_reducible (replace h := of_decide_eq_true h) | with_reducible (replace h := of_decide_eq_false h) | with_reducible (replace h := bnt h) | with_reducible (replace h := bnf h) | with_reducible (replace h := Int.not_lt.mp h) | with_reducible (replace h := Int.not_le.mp h) | with_reducible (replace h := band_dec h) | with_reducible (replace h := band_decF h) | with_reducible (replace h := bor_dec h) | with_reducible (replace h := bor_decF h)))) <;> (try (exfalso; first | contradiction | omega))) | fail)
        apply At_rounds (k + 1)
        case hE => (try dsimp only); rw [hmn]; (repeat (first | exact SubE.nil _ | refine SubE.cons rfl ?_))
        case hS => exact SUBS
        case hμ => (try dsimp only); omega
        case hp => exact ⟨hil, hno3⟩
      · rw [if_neg ht] at hmn
        by_cases hlt : m < cs[k].res
        · rw [if_pos hlt] at hmn
          repeat' (first | ((first | with_reducible (first | apply TL_q | apply TD_q0 | apply TD_q1 | apply TD_q2 | apply TD_q3) | ((with_reducible (first | apply TD_q0y | apply TD_q1y)); exact rfl; exact rfl; (with_reducible exact rfl))); (first | ((with_reducible apply QS_sliceHigh); exact rfl; exact rfl; omega) | ((with_reducible apply QS_sliceLow (l := 1)); exact rfl; exact rfl; omega) | exact QS.auto); exact rfl) | (refine GO ?_) | (refine GOE ?_; (first | (rintro _ _ ⟨rfl, rfl⟩) | (rintro _ _ ⟨g, rfl, rfl⟩) | (rintro _ _ ⟨A', c', rfl, rfl⟩))) | ((refine GO2 ?_ ?_) <;> intro h <;> (try (repeat (first | with_reducible (replace h := of_decide_eq_true h) | with_reducible (replace h := of_decide_eq_false h) | with_reducible (replace h := bnt h) | with_reducible (replace h := bnf h) | with_reducible (replace h := Int.not_lt.mp h) | with_reducible (replace h := Int.not_le.mp h) | with_reducible (replace h := band_dec h) | with_reducible (replace h := band_decF h) | with_reducible (replace h := bor_dec h) | with_reducible (replace h := bor_decF h)))) <;> (try (exfalso; first | contradiction | omega))) | fail)
          apply At_rounds (k + 1)
          case hE => (try dsimp only); rw [hmn]; (repeat (first | exact SubE.nil _ | refine SubE.cons rfl ?_))
          case hS => exact SUBS
          case hμ => (try dsimp only); omega
          case hp => exact ⟨hil, hno3⟩
        · rw [if_neg hlt] at hmn
          repeat' (first | ((first | with_reducible (first | apply TL_q | apply TD_q0 | apply TD_q1 | apply TD_q2 | apply TD_q3) | ((with_reducible (first | apply TD_q0y | apply TD_q1y)); exact rfl; exact rfl; (with_reducible exact rfl))); (first | ((with_reducible apply QS_sliceHigh); exact rfl; exact rfl; omega) | ((with_reducible apply QS_sliceLow (l := 1)); exact rfl; exact rfl; omega) | exact QS.auto); exact rfl) | (refine GO ?_) | (refine GOE ?_; (first | (rintro _ _ ⟨rfl, rfl⟩) | (rintro _ _ ⟨g, rfl, rfl⟩) | (rintro _ _ ⟨A', c', rfl, rfl⟩))) | ((refine GO2 ?_ ?_) <;> intro h <;> (try (repeat (first | with_reducible (replace h := of_decide_eq_true h) | with_reducible (replace h := of_decide_eq_false h) | with_reducible (replace h := bnt h) | with_reducible (replace h := bnf h) | with_reducible (replace h := Int.not_lt.mp h) | with_reducible (replace h := Int.not_le.mp h) | with_reducible (replace h := band_dec h) | with_reducible (replace h := band_decF h) | with_reducible (replace h := bor_dec h) | with_reducible (replace h := bor_decF h)))) <;> (try (exfalso; first | contradiction | omega))) | fail)
          apply At_rounds (k + 1)
          case hE => (try dsimp only); rw [hmn]; (repeat (first | exact SubE.nil _ | refine SubE.cons rfl ?_))
          case hS => exact SUBS
          case hμ => (try dsimp only); omega
          case hp => exact ⟨hil, hno3⟩
  · obtain rfl : i = cs.length := by omega
    rw [firstP_none hno] at hchk
    dsimp only at hchk
    clear hno
    have hmo := hmb cs.length (Nat.le_refl _)
    generalize mostK cs cs.length = mo at *
    repeat' (first | ((first | with_reducible (first | apply TL_q | apply TD_q0 | apply TD_q1 | apply TD_q2 | apply TD_q3) | ((with_reducible (first | apply TD_q0y | apply TD_q1y)); exact rfl; exact rfl; (with_reducible exact rfl))); (first | ((with_reducible apply QS_sliceHigh); exact rfl; exact rfl; omega) | ((with_reducible apply QS_sliceLow (l := 1)); exact rfl; exact rfl; omega) | exact QS.auto); exact rfl) | (refine GO ?_) | (refine GOE ?_; (first | (rintro _ _ ⟨rfl, rfl⟩) | (rintro _ _ ⟨g, rfl, rfl⟩) | (rintro _ _ ⟨A', c', rfl, rfl⟩))) | ((refine GO2 ?_ ?_) <;> intro h <;> (try (repeat (first | with_reducible (replace h := of_decide_eq_true h) | with_reducible (replace h := of_decide_eq_false h) | with_reducible (replace h := bnt h) | with_reducible (replace h := bnf h) | with_reducible (replace h := Int.not_lt.mp h) | with_reducible (replace h := Int.not_le.mp h) | with_reducible (replace h := band_dec h) | with_reducible (replace h := band_decF h) | with_reducible (replace h := bor_dec h) | with_reducible (replace h := bor_decF h)))) <;> (try (exfalso; first | contradiction | omega))) | fail)
    refine T_loop (X := Nat) (fun i => [(72, .int .i64 (i : Nat)), (71, .int .i64 cs.length), (70, .slice A cs.length ca), (4, .int .i64 mo), (3, .pointer (some ⟨gb, 0, none⟩)), (0, .slice A cs.length ca)]) (fun _ => [entBlk gb 48 #[.int .i64 0, .int .i64 0, .int .i64 0]]) (fun i => i ≤ cs.length ∧ ∀ j, j < i → ∀ q, q < cs.length → ordB cs j q = false) (fun i => cs.length - i) 0 ⟨by omega, fun j hj => by omega⟩ (by (repeat (first | exact SubE.nil _ | refine SubE.cons rfl ?_))) (by exact SUBS) ?_
    rintro i ⟨hi, hno⟩
    by_cases hil : i < cs.length
    · obtain ⟨bC, oC, rfl, _⟩ := RdE.open hA (by omega)
      have hto := hok.to i hil
      rw [clK_eq hil] at hto
      repeat' (first | ((first | with_reducible (first | apply TL_q | apply TD_q0 | apply TD_q1 | apply TD_q2 | apply TD_q3) | ((with_reducible (first | apply TD_q0y | apply TD_q1y)); exact rfl; exact rfl; (with_reducible exact rfl))); (first | ((with_reducible apply QS_sliceHigh); exact rfl; exact rfl; omega) | ((with_reducible apply QS_sliceLow (l := 1)); exact rfl; exact rfl; omega) | exact QS.auto); exact rfl) | (refine GO ?_) | (refine GOE ?_; (first | (rintro _ _ ⟨rfl, rfl⟩) | (rintro _ _ ⟨g, rfl, rfl⟩) | (rintro _ _ ⟨A', c', rfl, rfl⟩))) | ((refine GO2 ?_ ?_) <;> intro h <;> (try (repeat (first | with_reducible (replace h := of_decide_eq_true h) | with_reducible (replace h := of_decide_eq_false h) | with_reducible (replace h := bnt h) | with_reducible (replace h := bnf h) | with_reducible (replace h := Int.not_lt.mp h) | with_reducible (replace h := Int.not_le.mp h) | with_reducible (replace h := band_dec h) | with_reducible (replace h := band_decF h) | with_reducible (replace h := bor_dec h) | with_reducible (replace h := bor_decF h)))) <;> (try (exfalso; first | contradiction | omega))) | fail)
      obtain ⟨g10, rfl⟩ : ∃ x, x = g := ⟨_, rfl⟩
      refine T_loop (X := Nat) (fun k => [(79, .int .i64 (k : Nat)), (78, .int .i64 cs.length), (77, .slice (some ⟨bC, oC, none⟩) cs.length ca), (10, .pointer (some ⟨g10, 0, none⟩)), (9, .int .i64 (i : Nat)), (72, .int .i64 (i : Nat)), (71, .int .i64 cs.length), (70, .slice (some ⟨bC, oC, none⟩) cs.length ca), (4, .int .i64 mo), (3, .pointer (some ⟨gb, 0, none⟩)), (0, .slice (some ⟨bC, oC, none⟩) cs.length ca)]) (fun _ => [entBlk g10 43 (Cl.enc cs[i]).toArray, entBlk gb 48 #[.int .i64 0, .int .i64 0, .int .i64 0]])
        (fun k => k ≤ cs.length ∧ ∀ q, q < k → ordB cs i q = false) (fun k => cs.length - k) 0 ⟨by omega, fun q hq => by omega⟩ (by (repeat (first | exact SubE.nil _ | refine SubE.cons rfl ?_))) (by exact SUBS) ?_
      rintro k ⟨hk, hno2⟩
      by_cases hki : k < cs.length
      · have htw := ordB_eq hil hki
        have hne := hok.ne i k hil hki
        rw [clK_eq hil, clK_eq hki] at hne
        repeat' (first | ((first | with_reducible (first | apply TL_q | apply TD_q0 | apply TD_q1 | apply TD_q2 | apply TD_q3) | ((with_reducible (first | apply TD_q0y | apply TD_q1y)); exact rfl; exact rfl; (with_reducible exact rfl))); (first | ((with_reducible apply QS_sliceHigh); exact rfl; exact rfl; omega) | ((with_reducible apply QS_sliceLow (l := 1)); exact rfl; exact rfl; omega) | exact QS.auto); exact rfl) | (refine GO ?_) | (refine GOE ?_; (first | (rintro _ _ ⟨rfl, rfl⟩) | (rintro _ _ ⟨g, rfl, rfl⟩) | (rintro _ _ ⟨A', c', rfl, rfl⟩))) | ((refine GO2 ?_ ?_) <;> intro h <;> (try (repeat (first | with_reducible (replace h := of_decide_eq_true h) | with_reducible (replace h := of_decide_eq_false h) | with_reducible (replace h := bnt h) | with_reducible (replace h := bnf h) | with_reducible (replace h := Int.not_lt.mp h) | with_reducible (replace h := Int.not_le.mp h) | with_reducible (replace h := band_dec h) | with_reducible (replace h := band_decF h) | with_reducible (replace h := bor_dec h) | with_reducible (replace h := bor_decF h)))) <;> (try (exfalso; first | contradiction | omega))) | ((with_reducible (first | apply TD_e2z | apply TD_e3z | apply TL_e | apply TD_e2 | apply TD_e3)); ((with_reducible apply ES_callV (f := 14)); exact rfl; (intro w hw; exact between_C _ _ _ w); exact rfl); (first | exact rfl | exact ⟨rfl, rfl, rfl⟩); (rintro _ _ ⟨rfl, rfl⟩); (try refine ⟨SUB, ?_⟩)) | fail)
        all_goals
          first
            | (((with_reducible apply At_retM Try.results20); (repeat (first | exact ResIs.nil | (apply ResIs.tmp; exact rfl) | (apply ResIs.cell; exact rfl; exact Lds.auto))); intro w' hw); have hV : checkT cs = ⟨6, i, k⟩ := (by rw [hchk, firstP_at hil hki hno hno2 (by rw [htw]; simp only [Bool.and_eq_true, decide_eq_true_eq, ne_eq]; omega)]); rw [hfin _ hV (show (6 : Int) ≠ 0 by decide), hV]; exact ⟨none, 0, rfl, Own.nil _ _, hw.below0 rfl⟩)
            | exact At_rounds (k + 1) ⟨hki, fun q hq => (Nat.lt_succ_iff_lt_or_eq.1 hq).elim (fun e => hno2 q e) (fun e => by subst e; rw [htw, Bool.eq_false_iff]; intro e; simp only [Bool.and_eq_true, decide_eq_true_eq, ne_eq] at e; omega)⟩ (by omega) (by (repeat (first | exact SubE.nil _ | refine SubE.cons rfl ?_))) (by exact SUBS)
      · obtain rfl : k = cs.length := by omega
        repeat' (first | ((first | with_reducible (first | apply TL_q | apply TD_q0 | apply TD_q1 | apply TD_q2 | apply TD_q3) | ((with_reducible (first | apply TD_q0y | apply TD_q1y)); exact rfl; exact rfl; (with_reducible exact rfl))); (first | ((with_reducible apply QS_sliceHigh); exact rfl; exact rfl; omega) | ((with_reducible apply QS_sliceLow (l := 1)); exact rfl; exact rfl; omega) | exact QS.auto); exact rfl) | (refine GO ?_) | (refine GOE ?_; (first | (rintro _ _ ⟨rfl, rfl⟩) | (rintro _ _ ⟨g, rfl, rfl⟩) | (rintro _ _ ⟨A', c', rfl, rfl⟩))) | ((refine GO2 ?_ ?_) <;> intro h <;> (try (repeat (first | with_reducible (replace h := of_decide_eq_true h) | with_reducible (replace h := of_decide_eq_false h) | with_reducible (replace h := bnt h) | with_reducible (replace h := bnf h) | with_reducible (replace h := Int.not_lt.mp h) | with_reducible (replace h := Int.not_le.mp h) | with_reducible (replace h := band_dec h) | with_reducible (replace h := band_decF h) | with_reducible (replace h := bor_dec h) | with_reducible (replace h := bor_decF h)))) <;> (try (exfalso; first | contradiction | omega))) | fail)
        exact At_rounds (i + 1) ⟨hil, fun j hj => (Nat.lt_succ_iff_lt_or_eq.1 hj).elim (fun e => hno j e) (fun e => by subst e; exact hno2)⟩ (by omega) (by (repeat (first | exact SubE.nil _ | refine SubE.cons rfl ?_))) (by exact SUBS)
    · obtain rfl : i = cs.length := by omega
      rw [firstP_none hno] at hchk
      dsimp only at hchk
      clear hno
      repeat' (first | ((first | with_reducible (first | apply TL_q | apply TD_q0 | apply TD_q1 | apply TD_q2 | apply TD_q3) | ((with_reducible (first | apply TD_q0y | apply TD_q1y)); exact rfl; exact rfl; (with_reducible exact rfl))); (first | ((with_reducible apply QS_sliceHigh); exact rfl; exact rfl; omega) | ((with_reducible apply QS_sliceLow (l := 1)); exact rfl; exact rfl; omega) | exact QS.auto); exact rfl) | (refine GO ?_) | (refine GOE ?_; (first | (rintro _ _ ⟨rfl, rfl⟩) | (rintro _ _ ⟨g, rfl, rfl⟩) | (rintro _ _ ⟨A', c', rfl, rfl⟩))) | ((refine GO2 ?_ ?_) <;> intro h <;> (try (repeat (first | with_reducible (replace h := of_decide_eq_true h) | with_reducible (replace h := of_decide_eq_false h) | with_reducible (replace h := bnt h) | with_reducible (replace h := bnf h) | with_reducible (replace h := Int.not_lt.mp h) | with_reducible (replace h := Int.not_le.mp h) | with_reducible (replace h := band_dec h) | with_reducible (replace h := band_decF h) | with_reducible (replace h := bor_dec h) | with_reducible (replace h := bor_decF h)))) <;> (try (exfalso; first | contradiction | omega))) | fail)
      refine T_loop (X := Nat × Option Addr × Nat) (fun x => [(108, .int .i64 (x.1 : Nat)), (13, .slice x.2.1 (pendK cs x.1).length x.2.2), (107, .int .i64 cs.length), (106, .slice A cs.length ca), (4, .int .i64 mo), (3, .pointer (some ⟨gb, 0, none⟩)), (0, .slice A cs.length ca)]) (fun x => [entOwn natEnc 1 3 x.2.1 x.2.2 (pendK cs x.1), entBlk gb 48 #[.int .i64 0, .int .i64 0, .int .i64 0]]) (fun x => x.1 ≤ cs.length) (fun x => cs.length - x.1) (0, none, 0) (by (try dsimp only); omega) (by (repeat (first | exact SubE.nil _ | refine SubE.cons rfl ?_))) (fun w' hw => by
          show Mem _ w' [entOwn natEnc 1 3 none 0 ([] : List Nat), entBlk gb 48 #[.int .i64 0, .int .i64 0, .int .i64 0]]
          exact (hw.nilOwn natEnc 1 3).sel (by (repeat (first | exact Sel.nil _ | (apply Sel.cons; (repeat (first | with_reducible exact Pick.here _ _ | with_reducible apply Pick.there))))))) ?_
      rintro ⟨k, PA, pc⟩ hk
      dsimp only at hk ⊢
      have hps := pendK_succ cs k
      have hpk := pendK_len cs k
      by_cases hkl : k < cs.length
      · obtain ⟨bC, oC, rfl, _⟩ := RdE.open hA (by omega)
        rw [clK_eq hkl] at hps
        generalize pendK cs k = p at *
        by_cases ht : cs[k].to = -1
        · rw [if_pos ht] at hps
          repeat' (first | ((first | with_reducible (first | apply TL_q | apply TD_q0 | apply TD_q1 | apply TD_q2 | apply TD_q3) | ((with_reducible (first | apply TD_q0y | apply TD_q1y)); exact rfl; exact rfl; (with_reducible exact rfl))); (first | ((with_reducible apply QS_sliceHigh); exact rfl; exact rfl; omega) | ((with_reducible apply QS_sliceLow (l := 1)); exact rfl; exact rfl; omega) | exact QS.auto); exact rfl) | (refine GO ?_) | (refine GOE ?_; (first | (rintro _ _ ⟨rfl, rfl⟩) | (rintro _ _ ⟨g, rfl, rfl⟩) | (rintro _ _ ⟨A', c', rfl, rfl⟩))) | ((refine GO2 ?_ ?_) <;> intro h <;> (try (repeat (first | with_reducible (replace h := of_decide_eq_true h) | with_reducible (replace h := of_decide_eq_false h) | with_reducible (replace h := bnt h) | with_reducible (replace h := bnf h) | with_reducible (replace h := Int.not_lt.mp h) | with_reducible (replace h := Int.not_le.mp h) | with_reducible (replace h := band_dec h) | with_reducible (replace h := band_decF h) | with_reducible (replace h := bor_dec h) | with_reducible (replace h := bor_decF h)))) <;> (try (exfalso; first | contradiction | omega))) | ((with_reducible (first | apply TD_e2z | apply TD_e3z | apply TL_e | apply TD_e2 | apply TD_e3)); ((with_reducible apply ES_append1 (enc := natEnc) (xx := k)); exact rfl; exact rfl; (repeat (first | with_reducible exact List.mem_cons_self | with_reducible apply List.mem_cons_of_mem)); exact rfl; exact fun _ => rfl; exact fun _ => rfl; (intro A' c'; first | ((repeat (first | with_reducible exact Upd.here _ _ _ | with_reducible apply Upd.there)); done) | (repeat (first | exact Upd.here _ _ _ | apply Upd.there))); (omega); decide; exact rfl); (first | exact rfl | exact ⟨rfl, rfl, rfl⟩); (rintro _ _ ⟨A', c', rfl, rfl⟩); (try refine ⟨SUB, ?_⟩)) | fail)
          apply At_rounds (k + 1, A', c')
          case hE => (try dsimp only); rw [hps]; (repeat (first | exact SubE.nil _ | refine SubE.cons rfl ?_))
          case hS => (try dsimp only); rw [hps]; exact fun w' hw => hw.sel (by (repeat (first | exact Sel.nil _ | (apply Sel.cons; (repeat (first | with_reducible exact Pick.here _ _ | with_reducible apply Pick.there))))))
          case hμ => (try dsimp only); omega
          case hp => (try dsimp only); omega
        · rw [if_neg ht] at hps
          repeat' (first | ((first | with_reducible (first | apply TL_q | apply TD_q0 | apply TD_q1 | apply TD_q2 | apply TD_q3) | ((with_reducible (first | apply TD_q0y | apply TD_q1y)); exact rfl; exact rfl; (with_reducible exact rfl))); (first | ((with_reducible apply QS_sliceHigh); exact rfl; exact rfl; omega) | ((with_reducible apply QS_sliceLow (l := 1)); exact rfl; exact rfl; omega) | exact QS.auto); exact rfl) | (refine GO ?_) | (refine GOE ?_; (first | (rintro _ _ ⟨rfl, rfl⟩) | (rintro _ _ ⟨g, rfl, rfl⟩) | (rintro _ _ ⟨A', c', rfl, rfl⟩))) | ((refine GO2 ?_ ?_) <;> intro h <;> (try (repeat (first | with_reducible (replace h := of_decide_eq_true h) | with_reducible (replace h := of_decide_eq_false h) | with_reducible (replace h := bnt h) | with_reducible (replace h := bnf h) | with_reducible (replace h := Int.not_lt.mp h) | with_reducible (replace h := Int.not_le.mp h) | with_reducible (replace h := band_dec h) | with_reducible (replace h := band_decF h) | with_reducible (replace h := bor_dec h) | with_reducible (replace h := bor_decF h)))) <;> (try (exfalso; first | contradiction | omega))) | fail)
          apply At_rounds (k + 1, PA, pc)
          case hE => (try dsimp only); rw [hps]; (repeat (first | exact SubE.nil _ | refine SubE.cons rfl ?_))
          case hS => (try dsimp only); rw [hps]; exact fun w' hw => hw.sel (by (repeat (first | exact Sel.nil _ | (apply Sel.cons; (repeat (first | with_reducible exact Pick.here _ _ | with_reducible apply Pick.there))))))
          case hμ => (try dsimp only); omega
          case hp => (try dsimp only); omega
      · obtain rfl : k = cs.length := by omega
        rw [show pendK cs cs.length = pendT cs from rfl]
        refine T_fact (p := (pendT cs).length ≤ pc ∧ (PA = none → pc = 0)) (fun w hw => hw.ownFacts (enc := natEnc) (M := 1) (et := 3) (by first | ((repeat (first | with_reducible exact List.mem_cons_self | with_reducible apply List.mem_cons_of_mem)); done) | (repeat (first | exact List.Mem.head _ | apply List.Mem.tail)))) fun hf0 => ?_
        have hpc := hf0.1
        repeat' (first | ((first | with_reducible (first | apply TL_q | apply TD_q0 | apply TD_q1 | apply TD_q2 | apply TD_q3) | ((with_reducible (first | apply TD_q0y | apply TD_q1y)); exact rfl; exact rfl; (with_reducible exact rfl))); (first | ((with_reducible apply QS_sliceHigh); exact rfl; exact rfl; omega) | ((with_reducible apply QS_sliceLow (l := 1)); exact rfl; exact rfl; omega) | exact QS.auto); exact rfl) | (refine GO ?_) | (refine GOE ?_; (first | (rintro _ _ ⟨rfl, rfl⟩) | (rintro _ _ ⟨g, rfl, rfl⟩) | (rintro _ _ ⟨A', c', rfl, rfl⟩))) | ((refine GO2 ?_ ?_) <;> intro h <;> (try (repeat (first | with_reducible (replace h := of_decide_eq_true h) | with_reducible (replace h := of_decide_eq_false h) | with_reducible (replace h := bnt h) | with_reducible (replace h := bnf h) | with_reducible (replace h := Int.not_lt.mp h) | with_reducible (replace h := Int.not_le.mp h) | with_reducible (replace h := band_dec h) | with_reducible (replace h := band_decF h) | with_reducible (replace h := bor_dec h) | with_reducible (replace h := bor_decF h)))) <;> (try (exfalso; first | contradiction | omega))) | fail)
        refine T_loop (X := Nat × Option Addr × Nat × Option Addr × Nat) (fun x => [(17, .int .i64 (x.1 : Nat)), (13, .slice x.2.1 ((pendT cs).length - (missK cs x.1).length) x.2.2.1), (16, .slice x.2.2.2.1 ((List.range x.1).map (whoT cs)).length x.2.2.2.2), (4, .int .i64 mo), (3, .pointer (some ⟨gb, 0, none⟩)), (0, .slice A cs.length ca)])
          (fun x => [entOwn natEnc 1 3 x.2.2.2.1 x.2.2.2.2 ((List.range x.1).map (whoT cs)), entOwn natEnc 1 3 PA pc (pendT cs), entBlk gb 48 #[.int .i64 0, .int .i64 0, .int .i64 0]])
          (fun x => x.1 ≤ numT cs ∧ (∀ k, k < (missK cs x.1).length → gapB cs k = false) ∧ (missK cs x.1).length ≤ (pendT cs).length ∧ ((missK cs x.1).length < (pendT cs).length → ∀ g, PA = some ⟨g, 0, none⟩ → x.2.1 = some ⟨g, (missK cs x.1).length, none⟩ ∧ x.2.2.1 = pc - (missK cs x.1).length))
          (fun x => numT cs - x.1) (0, PA, pc, none, 0) ⟨by (try dsimp only); omega, fun k hk => absurd hk (Nat.not_lt_zero _), Nat.zero_le _, fun _ g hg => ⟨hg, rfl⟩⟩ (by (repeat (first | exact SubE.nil _ | refine SubE.cons rfl ?_))) (fun w' hw => by
            show Mem _ w' [entOwn natEnc 1 3 none 0 ([] : List Nat), entOwn natEnc 1 3 PA pc (pendT cs), entBlk gb 48 #[.int .i64 0, .int .i64 0, .int .i64 0]]
            exact (hw.nilOwn natEnc 1 3).sel (by (repeat (first | exact Sel.nil _ | (apply Sel.cons; (repeat (first | with_reducible exact Pick.here _ _ | with_reducible apply Pick.there))))))) ?_
        rintro ⟨n, OA, oc, A5, c5⟩ ⟨hn, hgap, hjl, hop⟩
        dsimp only at hn hgap hjl hop ⊢
        have hms := missK_succ cs n
        have hws := numsT_succ cs n
        have hwl : ((List.range n).map (whoT cs)).length = n := by simp
        have hnb1 := numT_bd1 hok
        by_cases hnl : n < numT cs
        · have hwho : whoT cs n = if lastK cs (n : Nat) cs.length < 0 then (pendT cs).getD (missK cs n).length 0 else (lastK cs (n : Nat) cs.length).toNat := rfl
          have hlh := lastK_has cs (n : Nat) cs.length
          have hat := fun h => missK_at cs (n := n) (m := numT cs) h hnl
          generalize hj : (missK cs n).length = j at *
          generalize (List.range n).map (whoT cs) = W at *
          repeat' (first | ((first | with_reducible (first | apply TL_q | apply TD_q0 | apply TD_q1 | apply TD_q2 | apply TD_q3) | ((with_reducible (first | apply TD_q0y | apply TD_q1y)); exact rfl; exact rfl; (with_reducible exact rfl))); (first | ((with_reducible apply QS_sliceHigh); exact rfl; exact rfl; omega) | ((with_reducible apply QS_sliceLow (l := 1)); exact rfl; exact rfl; omega) | exact QS.auto); exact rfl) | (refine GO ?_) | (refine GOE ?_; (first | (rintro _ _ ⟨rfl, rfl⟩) | (rintro _ _ ⟨g, rfl, rfl⟩) | (rintro _ _ ⟨A', c', rfl, rfl⟩))) | ((refine GO2 ?_ ?_) <;> intro h <;> (try (repeat (first | with_reducible (replace h := of_decide_eq_true h) | with_reducible (replace h := of_decide_eq_false h) | with_reducible (replace h := bnt h) | with_reducible (replace h := bnf h) | with_reducible (replace h := Int.not_lt.mp h) | with_reducible (replace h := Int.not_le.mp h) | with_reducible (replace h := band_dec h) | with_reducible (replace h := band_decF h) | with_reducible (replace h := bor_dec h) | with_reducible (replace h := bor_decF h)))) <;> (try (exfalso; first | contradiction | omega))) | fail)
          refine T_loop (X := Nat) (fun k => [(128, .int .i64 (k : Nat)), (127, .int .i64 cs.length), (126, .slice A cs.length ca), (18, .int .i64 (lastK cs (n : Nat) k)), (13, .slice OA ((pendT cs).length - j) oc), (16, .slice A5 W.length c5), (17, .int .i64 (n : Nat)), (4, .int .i64 mo), (3, .pointer (some ⟨gb, 0, none⟩)), (0, .slice A cs.length ca)]) (fun _ => [entOwn natEnc 1 3 A5 c5 W, entOwn natEnc 1 3 PA pc (pendT cs), entBlk gb 48 #[.int .i64 0, .int .i64 0, .int .i64 0]]) (fun k => k ≤ cs.length) (fun k => cs.length - k) 0 (by omega) (by (repeat (first | exact SubE.nil _ | refine SubE.cons rfl ?_))) (by exact SUBS) ?_
          intro k hk
          by_cases hkl : k < cs.length
          · obtain ⟨bC, oC, rfl, _⟩ := RdE.open hA (by omega)
            have hls : lastK cs (n : Nat) (k + 1) = if (clK cs k).to ≠ -1 ∧ (clK cs k).res = (n : Nat) then (k : Int) else lastK cs (n : Nat) k := rfl
            rw [clK_eq hkl] at hls
            generalize lastK cs (n : Nat) k = q at *
            repeat' (first | ((first | with_reducible (first | apply TL_q | apply TD_q0 | apply TD_q1 | apply TD_q2 | apply TD_q3) | ((with_reducible (first | apply TD_q0y | apply TD_q1y)); exact rfl; exact rfl; (with_reducible exact rfl))); (first | ((with_reducible apply QS_sliceHigh); exact rfl; exact rfl; omega) | ((with_reducible apply QS_sliceLow (l := 1)); exact rfl; exact rfl; omega) | exact QS.auto); exact rfl) | (refine GO ?_) | (refine GOE ?_; (first | (rintro _ _ ⟨rfl, rfl⟩) | (rintro _ _ ⟨g, rfl, rfl⟩) | (rintro _ _ ⟨A', c', rfl, rfl⟩))) | ((refine GO2 ?_ ?_) <;> intro h <;> (try (repeat (first | with_reducible (replace h := of_decide_eq_true h) | with_reducible (replace h := of_decide_eq_false h) | with_reducible (replace h := bnt h) | with_reducible (replace h := bnf h) | with_reducible (replace h := Int.not_lt.mp h) | with_reducible (replace h := Int.not_le.mp h) | with_reducible (replace h := band_dec h) | with_reducible (replace h := band_decF h) | with_reducible (replace h := bor_dec h) | with_reducible (replace h := bor_decF h)))) <;> (try (exfalso; first | contradiction | omega))) | fail)
            all_goals
              apply At_rounds (k + 1)
              case hE => first | (rw [hls, if_pos (by omega)]; (repeat (first | exact SubE.nil _ | refine SubE.cons rfl ?_)); done) | (rw [hls, if_neg (by omega)]; (repeat (first | exact SubE.nil _ | refine SubE.cons rfl ?_)); done)
              case hS => exact SUBS
              case hμ => (try dsimp only); omega
              case hp => exact hkl
          · obtain rfl : k = cs.length := by omega
            have hhas : hasT cs n = hasK cs (n : Nat) cs.length := rfl
            generalize lastK cs (n : Nat) cs.length = q at *
            by_cases hq : q < 0
            · obtain rfl : q = -1 := by omega
              have hht : hasT cs n = false := hlh.1.1 hq
              have hmiss := fun k hk ht => missing_res (k := k) hht hk ht
              obtain ⟨hjt, hjv⟩ := List.getElem?_eq_some_iff.1 (hat hht)
              rw [← hml] at hjt
              have hmj : (missT cs).getD j 0 = n := by
                rw [List.getD_eq_getElem?_getD, show (missT cs)[j]? = some n from hat hht]; rfl
              rw [hht, if_neg (by decide)] at hms
              rw [if_pos (by decide)] at hwho
              have hgj : gapB cs j = (decide ((pendT cs).length ≤ j) || !canT cs ((pendT cs).getD j 0) n) := by unfold gapB; rw [hmj]
              have hV : gapB cs j = true → checkT cs = ⟨8, (n : Nat), 0⟩ := fun hb => by
                rw [hchk, firstN_at hjt hgap hb]
                dsimp only
                rw [hmj]
              clear hlh hat hchk hhas
              by_cases hjp : j < (pendT cs).length
              · have hpj : (pendT cs).getD j 0 = (pendT cs)[j] := by simp [hjp]
                have hpo : (pendT cs)[j] < cs.length := (pendK_lt (cs := cs) (k := cs.length) (List.getElem_mem hjp)).1
                have hck := clK_eq hpo
                rw [hpj] at hwho hgj
                rw [decide_eq_false (by omega), Bool.false_or] at hgj
                refine T_own (enc := natEnc) (ls := pendT cs) (by first | ((repeat (first | with_reducible exact List.mem_cons_self | with_reducible apply List.mem_cons_of_mem)); done) | (repeat (first | exact List.Mem.head _ | apply List.Mem.tail))) (by omega) ?_
                rintro gO rfl
                obtain ⟨rfl, rfl⟩ := hop hjp gO rfl
                repeat' (first | ((first | with_reducible (first | apply TL_q | apply TD_q0 | apply TD_q1 | apply TD_q2 | apply TD_q3) | ((with_reducible (first | apply TD_q0y | apply TD_q1y)); exact rfl; exact rfl; (with_reducible exact rfl))); (first | ((with_reducible apply QS_sliceHigh); exact rfl; exact rfl; omega) | ((with_reducible apply QS_sliceLow (l := 1)); exact rfl; exact rfl; omega) | exact QS.auto); exact rfl) | (refine GG ?_) | (refine GE ?_; (first | (rintro _ _ ⟨rfl, rfl⟩) | (rintro _ _ ⟨g, rfl, rfl⟩) | (rintro _ _ ⟨A', c', rfl, rfl⟩)); (try refine ⟨SUB, ?_⟩)) | ((refine GO2 ?_ ?_) <;> intro h <;> (try (repeat (first | with_reducible (replace h := of_decide_eq_true h) | with_reducible (replace h := of_decide_eq_false h) | with_reducible (replace h := bnt h) | with_reducible (replace h := bnf h) | with_reducible (replace h := Int.not_lt.mp h) | with_reducible (replace h := Int.not_le.mp h) | with_reducible (replace h := band_dec h) | with_reducible (replace h := band_decF h) | with_reducible (replace h := bor_dec h) | with_reducible (replace h := bor_decF h)))) <;> (try (exfalso; first | contradiction | omega))) | (refine GOF ?_ ?_) | ((with_reducible apply T_draw (id := 43) 1000 (OT.seq [(0, 0), (0, 1), (0, 3), (0, 4), (1, 2), (0, 5), (0, 6)] .nil)); kernel_rfl; exact rfl; kernel_rfl; (repeat (first | with_reducible exact Blind.body | with_reducible apply Blind.seq | with_reducible apply Blind.block))) | ((with_reducible apply T_draw (id := 47) 1000 (OT.seq [(0, 0), (1, 1), (0, 2), (0, 3), (0, 4), (0, 6), (0, 7), (0, 8), (0, 9), (1, 5), (1, 10), (0, 11), (0, 12), (0, 13), (0, 14), (0, 16), (1, 15), (0, 17), (0, 18)] .nil)); kernel_rfl; exact rfl; kernel_rfl; (repeat (first | with_reducible exact Blind.body | with_reducible apply Blind.seq | with_reducible apply Blind.block))) | fail)
                refine T_loop (X := Nat) (fun k => [(158, .int .i64 (k : Nat)), (157, .int .i64 cs.length), (156, .slice A cs.length ca), (13, .slice (some ⟨gO, if pc - j = 1 then j else j + 1 * 1, none⟩) ((pendT cs).length - j - 1) (pc - j - 1)), (18, .int .i64 ((pendT cs)[j] : Nat)), (16, .slice A5 W.length c5), (17, .int .i64 (n : Nat)), (4, .int .i64 mo), (3, .pointer (some ⟨gb, 0, none⟩)), (0, .slice A cs.length ca)]) (fun _ => [entOwn natEnc 1 3 A5 c5 W, entOwn natEnc 1 3 (some ⟨gO, 0, none⟩) pc (pendT cs), entBlk gb 48 #[.int .i64 0, .int .i64 0, .int .i64 0]])
                  (fun k => k ≤ cs.length ∧ ∀ q (hq : q < k) (hq2 : q < cs.length), lateB cs (pendT cs)[j] n cs[q] = false) (fun k => cs.length - k) 0 ⟨by omega, fun q hq => by omega⟩ (by (repeat (first | exact SubE.nil _ | refine SubE.cons rfl ?_))) (by exact SUBS) ?_
                rintro k ⟨hk2, hlate⟩
                by_cases hkl2 : k < cs.length
                · obtain ⟨bC, oC, rfl, _⟩ := RdE.open hA (by omega)
                  have hres := hmiss k hkl2
                  have hlk : lateB cs (pendT cs)[j] n cs[k] = (decide (cs[k].to ≠ -1) && (decide (cs[k].to < cs[(pendT cs)[j]].from_) && decide ((n : Int) ≤ cs[k].res))) := by unfold lateB; rw [hck]
                  repeat' (first | ((first | with_reducible (first | apply TL_q | apply TD_q0 | apply TD_q1 | apply TD_q2 | apply TD_q3) | ((with_reducible (first | apply TD_q0y | apply TD_q1y)); exact rfl; exact rfl; (with_reducible exact rfl))); (first | ((with_reducible apply QS_sliceHigh); exact rfl; exact rfl; omega) | ((with_reducible apply QS_sliceLow (l := 1)); exact rfl; exact rfl; omega) | exact QS.auto); exact rfl) | (refine GG ?_) | (refine GE ?_; (first | (rintro _ _ ⟨rfl, rfl⟩) | (rintro _ _ ⟨g, rfl, rfl⟩) | (rintro _ _ ⟨A', c', rfl, rfl⟩)); (try refine ⟨SUB, ?_⟩)) | ((refine GO2 ?_ ?_) <;> intro h <;> (try (repeat (first | with_reducible (replace h := of_decide_eq_true h) | with_reducible (replace h := of_decide_eq_false h) | with_reducible (replace h := bnt h) | with_reducible (replace h := bnf h) | with_reducible (replace h := Int.not_lt.mp h) | with_reducible (replace h := Int.not_le.mp h) | with_reducible (replace h := band_dec h) | with_reducible (replace h := band_decF h) | with_reducible (replace h := bor_dec h) | with_reducible (replace h := bor_decF h)))) <;> (try (exfalso; first | contradiction | omega))) | (refine GOF ?_ ?_) | ((with_reducible apply T_draw (id := 43) 1000 (OT.seq [(0, 0), (0, 1), (0, 3), (0, 4), (1, 2), (0, 5), (0, 6)] .nil)); kernel_rfl; exact rfl; kernel_rfl; (repeat (first | with_reducible exact Blind.body | with_reducible apply Blind.seq | with_reducible apply Blind.block))) | ((with_reducible apply T_draw (id := 47) 1000 (OT.seq [(0, 0), (1, 1), (0, 2), (0, 3), (0, 4), (0, 6), (0, 7), (0, 8), (0, 9), (1, 5), (1, 10), (0, 11), (0, 12), (0, 13), (0, 14), (0, 16), (1, 15), (0, 17), (0, 18)] .nil)); kernel_rfl; exact rfl; kernel_rfl; (repeat (first | with_reducible exact Blind.body | with_reducible apply Blind.seq | with_reducible apply Blind.block))) | fail)
                  all_goals
                    first
                      | (((with_reducible apply At_retM Try.results20); (repeat (first | exact ResIs.nil | (apply ResIs.tmp; exact rfl) | (apply ResIs.cell; exact rfl; exact Lds.auto))); intro w' hw); have hV2 := hV (by rw [hgj, canT_no hkl2 (by rw [hlk]; simp only [Bool.and_eq_true, decide_eq_true_eq, ne_eq]; omega)]; rfl); rw [hfin _ hV2 (show (8 : Int) ≠ 0 by decide), hV2]; exact ⟨none, 0, rfl, Own.nil _ _, hw.below0 rfl⟩)
                      | exact At_rounds (k + 1) ⟨hkl2, fun q hq hq2 => (Nat.lt_succ_iff_lt_or_eq.1 hq).elim (fun e => hlate q e hq2) (fun e => by subst e; rw [hlk, Bool.eq_false_iff]; intro e; simp only [Bool.and_eq_true, decide_eq_true_eq, ne_eq] at e; omega)⟩ (by omega) (by (repeat (first | exact SubE.nil _ | refine SubE.cons rfl ?_))) (by exact SUBS)
                · obtain rfl : k = cs.length := by omega
                  have hcan := canT_yes (i := (pendT cs)[j]) (n := n) fun q hq => hlate q hq hq
                  rw [hcan] at hgj
                  rw [hwho] at hws
                  have hj2 : (missK cs (n + 1)).length = j + 1 := by rw [hms, List.length_append, hj]; rfl
                  repeat' (first | ((first | with_reducible (first | apply TL_q | apply TD_q0 | apply TD_q1 | apply TD_q2 | apply TD_q3) | ((with_reducible (first | apply TD_q0y | apply TD_q1y)); exact rfl; exact rfl; (with_reducible exact rfl))); (first | ((with_reducible apply QS_sliceHigh); exact rfl; exact rfl; omega) | ((with_reducible apply QS_sliceLow (l := 1)); exact rfl; exact rfl; omega) | exact QS.auto); exact rfl) | (refine GO ?_) | (refine GOE ?_; (first | (rintro _ _ ⟨rfl, rfl⟩) | (rintro _ _ ⟨g, rfl, rfl⟩) | (rintro _ _ ⟨A', c', rfl, rfl⟩))) | ((refine GO2 ?_ ?_) <;> intro h <;> (try (repeat (first | with_reducible (replace h := of_decide_eq_true h) | with_reducible (replace h := of_decide_eq_false h) | with_reducible (replace h := bnt h) | with_reducible (replace h := bnf h) | with_reducible (replace h := Int.not_lt.mp h) | with_reducible (replace h := Int.not_le.mp h) | with_reducible (replace h := band_dec h) | with_reducible (replace h := band_decF h) | with_reducible (replace h := bor_dec h) | with_reducible (replace h := bor_decF h)))) <;> (try (exfalso; first | contradiction | omega))) | ((with_reducible (first | apply TD_e2z | apply TD_e3z | apply TL_e | apply TD_e2 | apply TD_e3)); ((with_reducible apply ES_append1 (enc := natEnc) (xx := (pendT cs)[j])); exact rfl; exact rfl; (repeat (first | with_reducible exact List.mem_cons_self | with_reducible apply List.mem_cons_of_mem)); exact rfl; exact fun _ => rfl; exact fun _ => rfl; (intro A' c'; first | ((repeat (first | with_reducible exact Upd.here _ _ _ | with_reducible apply Upd.there)); done) | (repeat (first | exact Upd.here _ _ _ | apply Upd.there))); (omega); decide; exact rfl); (first | exact rfl | exact ⟨rfl, rfl, rfl⟩); (rintro _ _ ⟨A', c', rfl, rfl⟩); (try refine ⟨SUB, ?_⟩)) | fail)
                  apply At_rounds (n + 1, (some ⟨gO, if pc - j = 1 then j else j + 1 * 1, none⟩), pc - j - 1, A', c')
                  case hE => (try dsimp only); rw [hws, hj2, show (pendT cs).length - (j + 1) = (pendT cs).length - j - 1 from by omega]; (repeat (first | exact SubE.nil _ | refine SubE.cons rfl ?_))
                  case hS => (try dsimp only); rw [hws]; exact fun w' hw => hw.sel (by (repeat (first | exact Sel.nil _ | (apply Sel.cons; (repeat (first | with_reducible exact Pick.here _ _ | with_reducible apply Pick.there))))))
                  case hμ => (try dsimp only); omega
                  case hp =>
                    dsimp only
                    rw [hj2]
                    refine ⟨by omega, fun k hk => (Nat.lt_succ_iff_lt_or_eq.1 hk).elim (fun e => hgap k e) (fun e => by subst e; exact hgj), by omega, fun hlt g hg => ?_⟩
                    cases hg
                    rw [if_neg (by omega)]
                    exact ⟨by rw [Nat.mul_one], by omega⟩
              · have hgt := hV (by rw [hgj, decide_eq_true (by omega)]; rfl)
                repeat' (first | ((first | with_reducible (first | apply TL_q | apply TD_q0 | apply TD_q1 | apply TD_q2 | apply TD_q3) | ((with_reducible (first | apply TD_q0y | apply TD_q1y)); exact rfl; exact rfl; (with_reducible exact rfl))); (first | ((with_reducible apply QS_sliceHigh); exact rfl; exact rfl; omega) | ((with_reducible apply QS_sliceLow (l := 1)); exact rfl; exact rfl; omega) | exact QS.auto); exact rfl) | (refine GG ?_) | (refine GE ?_; (first | (rintro _ _ ⟨rfl, rfl⟩) | (rintro _ _ ⟨g, rfl, rfl⟩) | (rintro _ _ ⟨A', c', rfl, rfl⟩)); (try refine ⟨SUB, ?_⟩)) | ((refine GO2 ?_ ?_) <;> intro h <;> (try (repeat (first | with_reducible (replace h := of_decide_eq_true h) | with_reducible (replace h := of_decide_eq_false h) | with_reducible (replace h := bnt h) | with_reducible (replace h := bnf h) | with_reducible (replace h := Int.not_lt.mp h) | with_reducible (replace h := Int.not_le.mp h) | with_reducible (replace h := band_dec h) | with_reducible (replace h := band_decF h) | with_reducible (replace h := bor_dec h) | with_reducible (replace h := bor_decF h)))) <;> (try (exfalso; first | contradiction | omega))) | (refine GOF ?_ ?_) | ((with_reducible apply T_draw (id := 43) 1000 (OT.seq [(0, 0), (0, 1), (0, 3), (0, 4), (1, 2), (0, 5), (0, 6)] .nil)); kernel_rfl; exact rfl; kernel_rfl; (repeat (first | with_reducible exact Blind.body | with_reducible apply Blind.seq | with_reducible apply Blind.block))) | ((with_reducible apply T_draw (id := 47) 1000 (OT.seq [(0, 0), (1, 1), (0, 2), (0, 3), (0, 4), (0, 6), (0, 7), (0, 8), (0, 9), (1, 5), (1, 10), (0, 11), (0, 12), (0, 13), (0, 14), (0, 16), (1, 15), (0, 17), (0, 18)] .nil)); kernel_rfl; exact rfl; kernel_rfl; (repeat (first | with_reducible exact Blind.body | with_reducible apply Blind.seq | with_reducible apply Blind.block))) | fail)
                ((with_reducible apply At_retM Try.results20); (repeat (first | exact ResIs.nil | (apply ResIs.tmp; exact rfl) | (apply ResIs.cell; exact rfl; exact Lds.auto))); intro w' hw)
                rw [hfin _ hgt (show (8 : Int) ≠ 0 by decide), hgt]
                exact ⟨none, 0, rfl, Own.nil _ _, hw.below0 rfl⟩
            · obtain ⟨qq, rfl⟩ : ∃ qq : Nat, q = (qq : Int) := ⟨q.toNat, by omega⟩
              have hht : hasT cs n = true := by
                cases h : hasT cs n
                · exact absurd (hlh.1.2 h) hq
                · rfl
              rw [if_pos hht] at hms
              rw [if_neg hq, Int.toNat_natCast] at hwho
              rw [hwho] at hws
              repeat' (first | ((first | with_reducible (first | apply TL_q | apply TD_q0 | apply TD_q1 | apply TD_q2 | apply TD_q3) | ((with_reducible (first | apply TD_q0y | apply TD_q1y)); exact rfl; exact rfl; (with_reducible exact rfl))); (first | ((with_reducible apply QS_sliceHigh); exact rfl; exact rfl; omega) | ((with_reducible apply QS_sliceLow (l := 1)); exact rfl; exact rfl; omega) | exact QS.auto); exact rfl) | (refine GO ?_) | (refine GOE ?_; (first | (rintro _ _ ⟨rfl, rfl⟩) | (rintro _ _ ⟨g, rfl, rfl⟩) | (rintro _ _ ⟨A', c', rfl, rfl⟩))) | ((refine GO2 ?_ ?_) <;> intro h <;> (try (repeat (first | with_reducible (replace h := of_decide_eq_true h) | with_reducible (replace h := of_decide_eq_false h) | with_reducible (replace h := bnt h) | with_reducible (replace h := bnf h) | with_reducible (replace h := Int.not_lt.mp h) | with_reducible (replace h := Int.not_le.mp h) | with_reducible (replace h := band_dec h) | with_reducible (replace h := band_decF h) | with_reducible (replace h := bor_dec h) | with_reducible (replace h := bor_decF h)))) <;> (try (exfalso; first | contradiction | omega))) | ((with_reducible (first | apply TD_e2z | apply TD_e3z | apply TL_e | apply TD_e2 | apply TD_e3)); ((with_reducible apply ES_append1 (enc := natEnc) (xx := qq)); exact rfl; exact rfl; (repeat (first | with_reducible exact List.mem_cons_self | with_reducible apply List.mem_cons_of_mem)); exact rfl; exact fun _ => rfl; exact fun _ => rfl; (intro A' c'; first | ((repeat (first | with_reducible exact Upd.here _ _ _ | with_reducible apply Upd.there)); done) | (repeat (first | exact Upd.here _ _ _ | apply Upd.there))); (omega); decide; exact rfl); (first | exact rfl | exact ⟨rfl, rfl, rfl⟩); (rintro _ _ ⟨A', c', rfl, rfl⟩); (try refine ⟨SUB, ?_⟩)) | fail)
              apply At_rounds (n + 1, OA, oc, A', c')
              case hE => (try dsimp only); rw [hws, hms, hj]; (repeat (first | exact SubE.nil _ | refine SubE.cons rfl ?_))
              case hS => (try dsimp only); rw [hws]; exact fun w' hw => hw.sel (by (repeat (first | exact Sel.nil _ | (apply Sel.cons; (repeat (first | with_reducible exact Pick.here _ _ | with_reducible apply Pick.there))))))
              case hμ => (try dsimp only); omega
              case hp => dsimp only; rw [hms, hj]; exact ⟨by omega, hgap, hjl, hop⟩
        · obtain rfl : n = numT cs := by omega
          have hV : checkT cs = ⟨0, 0, 0⟩ := by rw [hchk, firstN_none (by rw [hml]; exact hgap)]
          have hN : numR cs = (List.range (numT cs)).map (whoT cs) := by unfold numR; rw [hV]; rfl
          repeat' (first | ((first | with_reducible (first | apply TL_q | apply TD_q0 | apply TD_q1 | apply TD_q2 | apply TD_q3) | ((with_reducible (first | apply TD_q0y | apply TD_q1y)); exact rfl; exact rfl; (with_reducible exact rfl))); (first | ((with_reducible apply QS_sliceHigh); exact rfl; exact rfl; omega) | ((with_reducible apply QS_sliceLow (l := 1)); exact rfl; exact rfl; omega) | exact QS.auto); exact rfl) | (refine GO ?_) | (refine GOE ?_; (first | (rintro _ _ ⟨rfl, rfl⟩) | (rintro _ _ ⟨g, rfl, rfl⟩) | (rintro _ _ ⟨A', c', rfl, rfl⟩))) | ((refine GO2 ?_ ?_) <;> intro h <;> (try (repeat (first | with_reducible (replace h := of_decide_eq_true h) | with_reducible (replace h := of_decide_eq_false h) | with_reducible (replace h := bnt h) | with_reducible (replace h := bnf h) | with_reducible (replace h := Int.not_lt.mp h) | with_reducible (replace h := Int.not_le.mp h) | with_reducible (replace h := band_dec h) | with_reducible (replace h := band_decF h) | with_reducible (replace h := bor_dec h) | with_reducible (replace h := bor_decF h)))) <;> (try (exfalso; first | contradiction | omega))) | fail)
          ((with_reducible apply At_retM Try.results20); (repeat (first | exact ResIs.nil | (apply ResIs.tmp; exact rfl) | (apply ResIs.cell; exact rfl; exact Lds.auto))); intro w' hw)
          rw [hN, hV]
          exact ⟨A5, c5, rfl, hw.ownOut rfl (by first | ((repeat (first | with_reducible exact List.mem_cons_self | with_reducible apply List.mem_cons_of_mem)); done) | (repeat (first | exact List.Mem.head _ | apply List.Mem.tail))), hw.below0 rfl⟩
end
end Go.Proofs.Ytbhjljnbjomnhaa
