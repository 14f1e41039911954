/- Lemmas for the walks (Rw9, W, Kinds). No condition. -/
import Derived.Test.YtbhjljnbjomnhaaG09
import Derived.Test.YtbhjljnbjomnhaaG14
import Derived.Test.YtbhjljnbjomnhaaG10
import Derived.Test.YtbhjljnbjomnhaaG07
import Derived.Test.YtbhjljnbjomnhaaG05
import Derived.Test.YtbhjljnbjomnhaaG04
set_option linter.unusedSimpArgs false
set_option linter.unusedVariables false
set_option linter.unusedSectionVars false
set_option linter.unnecessarySimpa false
namespace Go.Proofs.Ytbhjljnbjomnhaa
open Go.RowKit

def stayV (cs : List Cl) (v : Int) : Spn × Bool := if putBy cs v < 0 ∨ (clK cs (putBy cs v).toNat).to = -1 then (⟨0, 0⟩, false) else (stayE cs v, decide ((stayE cs v).frm ≤ (stayE cs v).til))
theorem stayV_b (cs : List Cl) (v : Int) : (stayV cs v).2 = stayB cs v := by
  unfold stayV stayB
  by_cases h1 : putBy cs v < 0
  · rw [if_pos (.inl h1), decide_eq_false (show ¬ 0 ≤ putBy cs v by omega)]; rfl
  · by_cases h2 : (clK cs (putBy cs v).toNat).to = -1
    · rw [if_pos (.inr h2)]
      simp [stayE, h2]
    · rw [if_neg (by rintro (h | h); exact h1 h; exact h2 h), decide_eq_true (show 0 ≤ putBy cs v by omega)]
      simp [stayE, h2]
theorem stayV_e {cs : List Cl} {v : Int} (h : stayB cs v = true) : (stayV cs v).1 = stayE cs v := by
  rw [← stayV_b] at h
  unfold stayV at h ⊢
  split
  · rename_i e; rw [if_pos e] at h; cases h
  · rfl
section
variable (A : Option Addr) (ca : Nat) (cs : List Cl) (v : Int) (w : World) (hA : RdE Cl.enc 7 w A cs) (hl : cs.length ≤ 200)
include hA hl
set_option maxRecDepth 100000 in
theorem putBy_any : Calls Try.prog 72 #[.slice A cs.length ca, .int .i64 v] w fun e w' => e = .returned (.int .i64 (putBy cs v)) ∧ Below w.heap.size w w' := by
  have hat := fun k (hk : k < cs.length) h1 h2 => ixN_at (P := isPut cs v) hk h1 h2
  have hno := fun h => ixN_none (n := cs.length) (P := isPut cs v) h
  rw [show ixN cs.length (isPut cs v) = putBy cs v from rfl] at hat hno
  generalize putBy cs v = R at *
  refine calls_T (S := []) [] Try.func72 rfl Try.ntmps72 (by simp) (Mem.nil _) ?_
  repeat' (first | ((first | with_reducible (first | apply TL_q | apply TD_q0 | apply TD_q1 | apply TD_q2 | apply TD_q3) | ((with_reducible (first | apply TD_q0y | apply TD_q1y)); exact rfl; exact rfl; (with_reducible exact rfl))); (first | ((with_reducible apply QS_sliceHigh); exact rfl; exact rfl; omega) | exact QS.auto); exact rfl) | (refine GO ?_) | (refine GOE ?_; (first | (rintro _ _ ⟨rfl, rfl⟩) | (rintro _ _ ⟨g, rfl, rfl⟩) | (rintro _ _ ⟨A', c', rfl, rfl⟩))) | ((refine GO2 ?_ ?_) <;> intro h <;> (try (repeat (first | with_reducible (replace h := of_decide_eq_true h) | with_reducible (replace h := of_decide_eq_false h) | with_reducible (replace h := bnt h) | with_reducible (replace h := bnf h) | with_reducible (replace h := Int.not_lt.mp h) | with_reducible (replace h := Int.not_le.mp h) | with_reducible (replace h := band_dec h) | with_reducible (replace h := band_decF h) | with_reducible (replace h := bor_dec h) | with_reducible (replace h := bor_decF h)))) <;> (try (exfalso; first | contradiction | omega))) | fail)
  refine T_loop (X := Nat) (fun k => [(9, .int .i64 (k : Nat)), (8, .int .i64 cs.length), (7, .slice A cs.length ca), (1, .int .i64 v)]) (fun _ => []) (fun k => k ≤ cs.length ∧ ∀ i, i < k → isPut cs v i = false) (fun k => cs.length - k) 0 ⟨by omega, fun i hi => by omega⟩ (by (repeat (first | exact SubE.nil _ | refine SubE.cons rfl ?_))) (by exact SUBS) ?_
  rintro k ⟨hk, hp⟩
  by_cases hkl : k < cs.length
  · obtain ⟨bC, oC, rfl, _⟩ := RdE.open hA (by omega)
    have hq : isPut cs v k = (decide (cs[k].kind = 3) && decide (cs[k].arg = v)) := by unfold isPut; rw [clK_eq hkl]
    repeat' (first | ((first | with_reducible (first | apply TL_q | apply TD_q0 | apply TD_q1 | apply TD_q2 | apply TD_q3) | ((with_reducible (first | apply TD_q0y | apply TD_q1y)); exact rfl; exact rfl; (with_reducible exact rfl))); (first | ((with_reducible apply QS_sliceHigh); exact rfl; exact rfl; omega) | exact QS.auto); exact rfl) | (refine GO ?_) | (refine GOE ?_; (first | (rintro _ _ ⟨rfl, rfl⟩) | (rintro _ _ ⟨g, rfl, rfl⟩) | (rintro _ _ ⟨A', c', rfl, rfl⟩))) | ((refine GO2 ?_ ?_) <;> intro h <;> (try (repeat (first | with_reducible (replace h := of_decide_eq_true h) | with_reducible (replace h := of_decide_eq_false h) | with_reducible (replace h := bnt h) | with_reducible (replace h := bnf h) | with_reducible (replace h := Int.not_lt.mp h) | with_reducible (replace h := Int.not_le.mp h) | with_reducible (replace h := band_dec h) | with_reducible (replace h := band_decF h) | with_reducible (replace h := bor_dec h) | with_reducible (replace h := bor_decF h)))) <;> (try (exfalso; first | contradiction | omega))) | fail)
    all_goals first
      | ((refine At_ret Try.results72 rfl (fun w' hw => ?_)); rw [hat k hkl hp (by rw [hq]; simp [*])]; exact ⟨rfl, hw.below0 rfl⟩)
      | exact At_rounds (k + 1) ⟨hkl, fun i hi => (Nat.lt_succ_iff_lt_or_eq.1 hi).elim (fun e => hp i e) (fun e => by subst e; rw [hq]; simp [*])⟩ (by omega) (by (repeat (first | exact SubE.nil _ | refine SubE.cons rfl ?_))) (by exact SUBS)
  · obtain rfl : k = cs.length := by omega
    repeat' (first | ((first | with_reducible (first | apply TL_q | apply TD_q0 | apply TD_q1 | apply TD_q2 | apply TD_q3) | ((with_reducible (first | apply TD_q0y | apply TD_q1y)); exact rfl; exact rfl; (with_reducible exact rfl))); (first | ((with_reducible apply QS_sliceHigh); exact rfl; exact rfl; omega) | exact QS.auto); exact rfl) | (refine GO ?_) | (refine GOE ?_; (first | (rintro _ _ ⟨rfl, rfl⟩) | (rintro _ _ ⟨g, rfl, rfl⟩) | (rintro _ _ ⟨A', c', rfl, rfl⟩))) | ((refine GO2 ?_ ?_) <;> intro h <;> (try (repeat (first | with_reducible (replace h := of_decide_eq_true h) | with_reducible (replace h := of_decide_eq_false h) | with_reducible (replace h := bnt h) | with_reducible (replace h := bnf h) | with_reducible (replace h := Int.not_lt.mp h) | with_reducible (replace h := Int.not_le.mp h) | with_reducible (replace h := band_dec h) | with_reducible (replace h := band_decF h) | with_reducible (replace h := bor_dec h) | with_reducible (replace h := bor_decF h)))) <;> (try (exfalso; first | contradiction | omega))) | fail)
    (refine At_ret Try.results72 rfl (fun w' hw => ?_))
    rw [hno hp]
    exact ⟨rfl, hw.below0 rfl⟩
set_option maxRecDepth 100000 in
theorem takenBy_any : Calls Try.prog 73 #[.slice A cs.length ca, .int .i64 v] w fun e w' => e = .returned (.int .i64 (gotBy cs v)) ∧ Below w.heap.size w w' := by
  have hat := fun k (hk : k < cs.length) h1 h2 => ixN_at (P := isGot cs v) hk h1 h2
  have hno := fun h => ixN_none (n := cs.length) (P := isGot cs v) h
  rw [show ixN cs.length (isGot cs v) = gotBy cs v from rfl] at hat hno
  generalize gotBy cs v = R at *
  refine calls_T (S := []) [] Try.func73 rfl Try.ntmps73 (by simp) (Mem.nil _) ?_
  repeat' (first | ((first | with_reducible (first | apply TL_q | apply TD_q0 | apply TD_q1 | apply TD_q2 | apply TD_q3) | ((with_reducible (first | apply TD_q0y | apply TD_q1y)); exact rfl; exact rfl; (with_reducible exact rfl))); (first | ((with_reducible apply QS_sliceHigh); exact rfl; exact rfl; omega) | exact QS.auto); exact rfl) | (refine GO ?_) | (refine GOE ?_; (first | (rintro _ _ ⟨rfl, rfl⟩) | (rintro _ _ ⟨g, rfl, rfl⟩) | (rintro _ _ ⟨A', c', rfl, rfl⟩))) | ((refine GO2 ?_ ?_) <;> intro h <;> (try (repeat (first | with_reducible (replace h := of_decide_eq_true h) | with_reducible (replace h := of_decide_eq_false h) | with_reducible (replace h := bnt h) | with_reducible (replace h := bnf h) | with_reducible (replace h := Int.not_lt.mp h) | with_reducible (replace h := Int.not_le.mp h) | with_reducible (replace h := band_dec h) | with_reducible (replace h := band_decF h) | with_reducible (replace h := bor_dec h) | with_reducible (replace h := bor_decF h)))) <;> (try (exfalso; first | contradiction | omega))) | fail)
  refine T_loop (X := Nat) (fun k => [(9, .int .i64 (k : Nat)), (8, .int .i64 cs.length), (7, .slice A cs.length ca), (1, .int .i64 v)]) (fun _ => []) (fun k => k ≤ cs.length ∧ ∀ i, i < k → isGot cs v i = false) (fun k => cs.length - k) 0 ⟨by omega, fun i hi => by omega⟩ (by (repeat (first | exact SubE.nil _ | refine SubE.cons rfl ?_))) (by exact SUBS) ?_
  rintro k ⟨hk, hp⟩
  by_cases hkl : k < cs.length
  · obtain ⟨bC, oC, rfl, _⟩ := RdE.open hA (by omega)
    have hq : isGot cs v k = (decide (cs[k].kind = 4) && decide (cs[k].res = v)) := by unfold isGot; rw [clK_eq hkl]
    repeat' (first | ((first | with_reducible (first | apply TL_q | apply TD_q0 | apply TD_q1 | apply TD_q2 | apply TD_q3) | ((with_reducible (first | apply TD_q0y | apply TD_q1y)); exact rfl; exact rfl; (with_reducible exact rfl))); (first | ((with_reducible apply QS_sliceHigh); exact rfl; exact rfl; omega) | exact QS.auto); exact rfl) | (refine GO ?_) | (refine GOE ?_; (first | (rintro _ _ ⟨rfl, rfl⟩) | (rintro _ _ ⟨g, rfl, rfl⟩) | (rintro _ _ ⟨A', c', rfl, rfl⟩))) | ((refine GO2 ?_ ?_) <;> intro h <;> (try (repeat (first | with_reducible (replace h := of_decide_eq_true h) | with_reducible (replace h := of_decide_eq_false h) | with_reducible (replace h := bnt h) | with_reducible (replace h := bnf h) | with_reducible (replace h := Int.not_lt.mp h) | with_reducible (replace h := Int.not_le.mp h) | with_reducible (replace h := band_dec h) | with_reducible (replace h := band_decF h) | with_reducible (replace h := bor_dec h) | with_reducible (replace h := bor_decF h)))) <;> (try (exfalso; first | contradiction | omega))) | fail)
    all_goals first
      | ((refine At_ret Try.results73 rfl (fun w' hw => ?_)); rw [hat k hkl hp (by rw [hq]; simp [*])]; exact ⟨rfl, hw.below0 rfl⟩)
      | exact At_rounds (k + 1) ⟨hkl, fun i hi => (Nat.lt_succ_iff_lt_or_eq.1 hi).elim (fun e => hp i e) (fun e => by subst e; rw [hq]; simp [*])⟩ (by omega) (by (repeat (first | exact SubE.nil _ | refine SubE.cons rfl ?_))) (by exact SUBS)
  · obtain rfl : k = cs.length := by omega
    repeat' (first | ((first | with_reducible (first | apply TL_q | apply TD_q0 | apply TD_q1 | apply TD_q2 | apply TD_q3) | ((with_reducible (first | apply TD_q0y | apply TD_q1y)); exact rfl; exact rfl; (with_reducible exact rfl))); (first | ((with_reducible apply QS_sliceHigh); exact rfl; exact rfl; omega) | exact QS.auto); exact rfl) | (refine GO ?_) | (refine GOE ?_; (first | (rintro _ _ ⟨rfl, rfl⟩) | (rintro _ _ ⟨g, rfl, rfl⟩) | (rintro _ _ ⟨A', c', rfl, rfl⟩))) | ((refine GO2 ?_ ?_) <;> intro h <;> (try (repeat (first | with_reducible (replace h := of_decide_eq_true h) | with_reducible (replace h := of_decide_eq_false h) | with_reducible (replace h := bnt h) | with_reducible (replace h := bnf h) | with_reducible (replace h := Int.not_lt.mp h) | with_reducible (replace h := Int.not_le.mp h) | with_reducible (replace h := band_dec h) | with_reducible (replace h := band_decF h) | with_reducible (replace h := bor_dec h) | with_reducible (replace h := bor_decF h)))) <;> (try (exfalso; first | contradiction | omega))) | fail)
    (refine At_ret Try.results73 rfl (fun w' hw => ?_))
    rw [hno hp]
    exact ⟨rfl, hw.below0 rfl⟩
set_option maxRecDepth 100000 in
set_option maxHeartbeats 4000000 in
theorem stayOf_any (hfr : ∀ k, k < cs.length → 0 ≤ (clK cs k).from_ ∧ (clK cs k).from_ < 200) : Calls Try.prog 24 #[.slice A cs.length ca, .int .i64 v] w fun e w' => e = .returned (.tuple #[.agg (Spn.enc (stayV cs v).1).toArray, .bool (stayV cs v).2]) ∧ Below w.heap.size w w' := by
  have hp := fun w' (hb : Below w.heap.size w w') => putBy_any A ca cs v w' (RdE.below hA hb) hl
  have hg := fun w' (hb : Below w.heap.size w w') => takenBy_any A ca cs v w' (RdE.below hA hb) hl
  have hpb := ixN_bd cs.length (isPut cs v)
  have hgb := ixN_bd cs.length (isGot cs v)
  rw [show ixN cs.length (isPut cs v) = putBy cs v from rfl] at hpb
  rw [show ixN cs.length (isGot cs v) = gotBy cs v from rfl] at hgb
  unfold stayV stayE
  generalize putBy cs v = P at *
  generalize gotBy cs v = G at *
  refine calls_T (S := []) [] Try.func24 rfl Try.ntmps24 (by simp) (Mem.nil _) ?_
  by_cases h0 : P < 0
  · rw [if_pos (.inl h0)]
    repeat' (first | ((first | with_reducible (first | apply TL_q | apply TD_q0 | apply TD_q1 | apply TD_q2 | apply TD_q3) | ((with_reducible (first | apply TD_q0y | apply TD_q1y)); exact rfl; exact rfl; (with_reducible exact rfl))); (first | ((with_reducible apply QS_sliceHigh); exact rfl; exact rfl; omega) | exact QS.auto); exact rfl) | (refine GO ?_) | (refine GOE ?_; (first | (rintro _ _ ⟨rfl, rfl⟩) | (rintro _ _ ⟨g, rfl, rfl⟩) | (rintro _ _ ⟨A', c', rfl, rfl⟩))) | ((refine GO2 ?_ ?_) <;> intro h <;> (try (repeat (first | with_reducible (replace h := of_decide_eq_true h) | with_reducible (replace h := of_decide_eq_false h) | with_reducible (replace h := bnt h) | with_reducible (replace h := bnf h) | with_reducible (replace h := Int.not_lt.mp h) | with_reducible (replace h := Int.not_le.mp h) | with_reducible (replace h := band_dec h) | with_reducible (replace h := band_decF h) | with_reducible (replace h := bor_dec h) | with_reducible (replace h := bor_decF h)))) <;> (try (exfalso; first | contradiction | omega))) | ((with_reducible (first | apply TD_e2z | apply TD_e3z | apply TL_e | apply TD_e2 | apply TD_e3)); ((with_reducible apply ES_callV (f := 72)); exact rfl; (intro w hw; exact hp w (hw.below0 rfl)); exact rfl); (first | exact rfl | exact ⟨rfl, rfl, rfl⟩); (rintro _ _ ⟨rfl, rfl⟩); (try refine ⟨SUB, ?_⟩)) | ((with_reducible (first | apply TD_e2z | apply TD_e3z | apply TL_e | apply TD_e2 | apply TD_e3)); ((with_reducible apply ES_callV (f := 73)); exact rfl; (intro w hw; exact hg w (hw.below0 rfl)); exact rfl); (first | exact rfl | exact ⟨rfl, rfl, rfl⟩); (rintro _ _ ⟨rfl, rfl⟩); (try refine ⟨SUB, ?_⟩)) | fail)
    all_goals first
      | (exfalso; omega)
      | (((with_reducible apply At_retM Try.results24); (repeat (first | exact ResIs.nil | (apply ResIs.tmp; exact rfl) | (apply ResIs.cell; exact rfl; exact Lds.auto))); intro w' hw); exact ⟨rfl, hw.below0 rfl⟩)
  · obtain ⟨bC, oC, rfl, _⟩ := RdE.open hA (by omega)
    have hpc := clK_eq (cs := cs) (i := P.toNat) (by omega)
    by_cases h1 : cs[P.toNat].to = -1
    · rw [if_pos (.inr (by rw [hpc]; exact h1))]
      repeat' (first | ((first | with_reducible (first | apply TL_q | apply TD_q0 | apply TD_q1 | apply TD_q2 | apply TD_q3) | ((with_reducible (first | apply TD_q0y | apply TD_q1y)); exact rfl; exact rfl; (with_reducible exact rfl))); (first | ((with_reducible apply QS_sliceHigh); exact rfl; exact rfl; omega) | exact QS.auto); exact rfl) | (refine GO ?_) | (refine GOE ?_; (first | (rintro _ _ ⟨rfl, rfl⟩) | (rintro _ _ ⟨g, rfl, rfl⟩) | (rintro _ _ ⟨A', c', rfl, rfl⟩))) | ((refine GO2 ?_ ?_) <;> intro h <;> (try (repeat (first | with_reducible (replace h := of_decide_eq_true h) | with_reducible (replace h := of_decide_eq_false h) | with_reducible (replace h := bnt h) | with_reducible (replace h := bnf h) | with_reducible (replace h := Int.not_lt.mp h) | with_reducible (replace h := Int.not_le.mp h) | with_reducible (replace h := band_dec h) | with_reducible (replace h := band_decF h) | with_reducible (replace h := bor_dec h) | with_reducible (replace h := bor_decF h)))) <;> (try (exfalso; first | contradiction | omega))) | ((with_reducible (first | apply TD_e2z | apply TD_e3z | apply TL_e | apply TD_e2 | apply TD_e3)); ((with_reducible apply ES_callV (f := 72)); exact rfl; (intro w hw; exact hp w (hw.below0 rfl)); exact rfl); (first | exact rfl | exact ⟨rfl, rfl, rfl⟩); (rintro _ _ ⟨rfl, rfl⟩); (try refine ⟨SUB, ?_⟩)) | ((with_reducible (first | apply TD_e2z | apply TD_e3z | apply TL_e | apply TD_e2 | apply TD_e3)); ((with_reducible apply ES_callV (f := 73)); exact rfl; (intro w hw; exact hg w (hw.below0 rfl)); exact rfl); (first | exact rfl | exact ⟨rfl, rfl, rfl⟩); (rintro _ _ ⟨rfl, rfl⟩); (try refine ⟨SUB, ?_⟩)) | fail)
      all_goals first
        | (exfalso; omega)
        | (((with_reducible apply At_retM Try.results24); (repeat (first | exact ResIs.nil | (apply ResIs.tmp; exact rfl) | (apply ResIs.cell; exact rfl; exact Lds.auto))); intro w' hw); exact ⟨rfl, hw.below0 rfl⟩)
    · rw [if_neg (by rw [hpc]; rintro (h | h); exact h0 h; exact h1 h), hpc]
      by_cases h2 : 0 ≤ G
      · have hgc := clK_eq (cs := cs) (i := G.toNat) (by omega)
        have hfb := hfr G.toNat (by omega)
        rw [hgc] at hfb
        rw [if_pos h2, hgc]
        repeat' (first | ((first | with_reducible (first | apply TL_q | apply TD_q0 | apply TD_q1 | apply TD_q2 | apply TD_q3) | ((with_reducible (first | apply TD_q0y | apply TD_q1y)); exact rfl; exact rfl; (with_reducible exact rfl))); (first | ((with_reducible apply QS_sliceHigh); exact rfl; exact rfl; omega) | exact QS.auto); exact rfl) | (refine GG ?_) | (refine GE ?_; (first | (rintro _ _ ⟨rfl, rfl⟩) | (rintro _ _ ⟨g, rfl, rfl⟩) | (rintro _ _ ⟨A', c', rfl, rfl⟩)); (try refine ⟨SUB, ?_⟩)) | ((refine GO2 ?_ ?_) <;> intro h <;> (try (repeat (first | with_reducible (replace h := of_decide_eq_true h) | with_reducible (replace h := of_decide_eq_false h) | with_reducible (replace h := bnt h) | with_reducible (replace h := bnf h) | with_reducible (replace h := Int.not_lt.mp h) | with_reducible (replace h := Int.not_le.mp h) | with_reducible (replace h := band_dec h) | with_reducible (replace h := band_decF h) | with_reducible (replace h := bor_dec h) | with_reducible (replace h := bor_decF h)))) <;> (try (exfalso; first | contradiction | omega))) | (refine GOF ?_ ?_) | ((with_reducible apply T_draw (id := 7) 6 (OT.seq [(0, 1), (0, 3), (1, 0)] (.fork (OT.seq [(2, 2)] (.fork (OT.seq [(2, 4), (0, 5), (3, 6), (0, 7)] .nil) (OT.seq [(3, 6), (3, 4), (0, 5), (0, 7)] .nil))) (.fork (OT.seq [(2, 4)] (.fork (OT.seq [(2, 2), (0, 5), (3, 6), (0, 7)] .nil) (OT.seq [(3, 6), (3, 2), (0, 5), (0, 7)] .nil))) (OT.seq [(3, 6)] (.fork (OT.seq [(3, 2), (3, 4), (0, 5), (0, 7)] .nil) (OT.seq [(3, 4), (3, 2), (0, 5), (0, 7)] .nil))))))); kernel_rfl; exact rfl; kernel_rfl; (repeat (first | with_reducible exact Blind.body | with_reducible apply Blind.seq | with_reducible apply Blind.block))) | ((with_reducible (first | apply TD_e2z | apply TD_e3z | apply TL_e | apply TD_e2 | apply TD_e3)); ((with_reducible apply ES_callV (f := 72)); exact rfl; (intro w hw; exact hp w (hw.below0 rfl)); exact rfl); (first | exact rfl | exact ⟨rfl, rfl, rfl⟩); (rintro _ _ ⟨rfl, rfl⟩); (try refine ⟨SUB, ?_⟩)) | ((with_reducible (first | apply TD_e2z | apply TD_e3z | apply TL_e | apply TD_e2 | apply TD_e3)); ((with_reducible apply ES_callV (f := 73)); exact rfl; (intro w hw; exact hg w (hw.below0 rfl)); exact rfl); (first | exact rfl | exact ⟨rfl, rfl, rfl⟩); (rintro _ _ ⟨rfl, rfl⟩); (try refine ⟨SUB, ?_⟩)) | fail)
        all_goals first
          | (exfalso; omega)
          | (((with_reducible apply At_retM Try.results24); (repeat (first | exact ResIs.nil | (apply ResIs.tmp; exact rfl) | (apply ResIs.cell; exact rfl; exact Lds.auto))); intro w' hw); exact ⟨rfl, hw.below0 rfl⟩)
      · rw [if_neg h2]
        repeat' (first | ((first | with_reducible (first | apply TL_q | apply TD_q0 | apply TD_q1 | apply TD_q2 | apply TD_q3) | ((with_reducible (first | apply TD_q0y | apply TD_q1y)); exact rfl; exact rfl; (with_reducible exact rfl))); (first | ((with_reducible apply QS_sliceHigh); exact rfl; exact rfl; omega) | exact QS.auto); exact rfl) | (refine GG ?_) | (refine GE ?_; (first | (rintro _ _ ⟨rfl, rfl⟩) | (rintro _ _ ⟨g, rfl, rfl⟩) | (rintro _ _ ⟨A', c', rfl, rfl⟩)); (try refine ⟨SUB, ?_⟩)) | ((refine GO2 ?_ ?_) <;> intro h <;> (try (repeat (first | with_reducible (replace h := of_decide_eq_true h) | with_reducible (replace h := of_decide_eq_false h) | with_reducible (replace h := bnt h) | with_reducible (replace h := bnf h) | with_reducible (replace h := Int.not_lt.mp h) | with_reducible (replace h := Int.not_le.mp h) | with_reducible (replace h := band_dec h) | with_reducible (replace h := band_decF h) | with_reducible (replace h := bor_dec h) | with_reducible (replace h := bor_decF h)))) <;> (try (exfalso; first | contradiction | omega))) | (refine GOF ?_ ?_) | ((with_reducible apply T_draw (id := 7) 6 (OT.seq [(0, 1), (0, 3), (1, 0)] (.fork (OT.seq [(2, 2)] (.fork (OT.seq [(2, 4), (0, 5), (3, 6), (0, 7)] .nil) (OT.seq [(3, 6), (3, 4), (0, 5), (0, 7)] .nil))) (.fork (OT.seq [(2, 4)] (.fork (OT.seq [(2, 2), (0, 5), (3, 6), (0, 7)] .nil) (OT.seq [(3, 6), (3, 2), (0, 5), (0, 7)] .nil))) (OT.seq [(3, 6)] (.fork (OT.seq [(3, 2), (3, 4), (0, 5), (0, 7)] .nil) (OT.seq [(3, 4), (3, 2), (0, 5), (0, 7)] .nil))))))); kernel_rfl; exact rfl; kernel_rfl; (repeat (first | with_reducible exact Blind.body | with_reducible apply Blind.seq | with_reducible apply Blind.block))) | ((with_reducible (first | apply TD_e2z | apply TD_e3z | apply TL_e | apply TD_e2 | apply TD_e3)); ((with_reducible apply ES_callV (f := 72)); exact rfl; (intro w hw; exact hp w (hw.below0 rfl)); exact rfl); (first | exact rfl | exact ⟨rfl, rfl, rfl⟩); (rintro _ _ ⟨rfl, rfl⟩); (try refine ⟨SUB, ?_⟩)) | ((with_reducible (first | apply TD_e2z | apply TD_e3z | apply TL_e | apply TD_e2 | apply TD_e3)); ((with_reducible apply ES_callV (f := 73)); exact rfl; (intro w hw; exact hg w (hw.below0 rfl)); exact rfl); (first | exact rfl | exact ⟨rfl, rfl, rfl⟩); (rintro _ _ ⟨rfl, rfl⟩); (try refine ⟨SUB, ?_⟩)) | fail)
        all_goals first
          | (exfalso; omega)
          | (((with_reducible apply At_retM Try.results24); (repeat (first | exact ResIs.nil | (apply ResIs.tmp; exact rfl) | (apply ResIs.cell; exact rfl; exact Lds.auto))); intro w' hw); exact ⟨rfl, hw.below0 rfl⟩)
end
section
variable (B0 : Option Addr) (d0 : Nat) (l : List Ev) (w : World) (hl : l.length ≤ 9223372036854775807) (hA : RdEv w B0 l)
include hl hA
set_option maxRecDepth 100000 in
set_option maxHeartbeats 4000000 in
theorem oncePut_any : Calls Try.prog 23 #[.slice B0 l.length d0] w fun e w' => ∃ A c, e = .returned (.tuple #[.slice A (onceR l).1.length c, .int .i64 (onceR l).2]) ∧ Own Cl.enc 7 43 w' w.heap.size (.slice A (onceR l).1.length c) (onceR l).1 ∧ Below w.heap.size w w' := by
  have hcf := fun A w h1 h2 => callsOf_any A B0 1 d0 [2] l w (by decide) hl h1 h2
  have her := onceR_err (l := l)
  have hbad := fun h i h1 h2 => onceR_bad (l := l) h (i := i) h1 h2
  have hgood := onceR_ok (l := l)
  have hlen := callsR_len [2] l
  obtain ⟨cs, y, er, hcr⟩ : ∃ cs y z, callsR [2] l = (cs, y, z) := ⟨_, _, _, rfl⟩
  rw [hcr] at hcf her hbad hgood hlen
  dsimp only at hcf her hbad hgood hlen
  generalize onceR l = R at *
  refine calls_T (S := []) [] Try.func23 rfl Try.ntmps23 (by simp) (Mem.nil _) ?_
  repeat' (first | ((with_reducible refine TL_mem (S' := [entOwn intEnc 1 3 (some ⟨g, 0, none⟩) 1 [2]]) (fun w hw => Mem.asOwn (enc := intEnc) (M := 1) [2] (Upd.here _ _ _) rfl (fun _ => rfl) (by decide) hw) ?_)) | ((first | with_reducible (first | apply TL_q | apply TD_q0 | apply TD_q1 | apply TD_q2 | apply TD_q3) | ((with_reducible (first | apply TD_q0y | apply TD_q1y)); exact rfl; exact rfl; (with_reducible exact rfl))); (first | ((with_reducible apply QS_sliceHigh); exact rfl; exact rfl; omega) | exact QS.auto); exact rfl) | (refine GO ?_) | (refine GOE ?_; (first | (rintro _ _ ⟨rfl, rfl⟩) | (rintro _ _ ⟨g, rfl, rfl⟩) | (rintro _ _ ⟨A', c', rfl, rfl⟩))) | ((refine GO2 ?_ ?_) <;> intro h <;> (try (repeat (first | with_reducible (replace h := of_decide_eq_true h) | with_reducible (replace h := of_decide_eq_false h) | with_reducible (replace h := bnt h) | with_reducible (replace h := bnf h) | with_reducible (replace h := Int.not_lt.mp h) | with_reducible (replace h := Int.not_le.mp h) | with_reducible (replace h := band_dec h) | with_reducible (replace h := band_decF h) | with_reducible (replace h := bor_dec h) | with_reducible (replace h := bor_decF h)))) <;> (try (exfalso; first | contradiction | omega))) | ((with_reducible (first | apply TD_e2z | apply TD_e3z | apply TL_e | apply TD_e2 | apply TD_e3)); ((with_reducible apply ES_callOwn (f := 19)); exact rfl; (intro w hw; exact hcf (some ⟨g, 0, none⟩) w (hw.ownRd (by first | ((repeat (first | with_reducible exact List.mem_cons_self | with_reducible apply List.mem_cons_of_mem)); done) | (repeat (first | exact List.Mem.head _ | apply List.Mem.tail))) (fun _ => rfl)) (hw.rd rfl hA)); exact rfl); (first | exact rfl | exact ⟨rfl, rfl, rfl⟩); (rintro _ _ ⟨A1, c1, rfl, rfl⟩); (try refine ⟨SUB, ?_⟩)) | fail)
  · obtain rfl := her (by assumption)
    (refine At_ret Try.results23 rfl (fun w' hw => ?_))
    exact ⟨none, 0, rfl, Own.nil _ _, hw.below0 rfl⟩
  · have h0 : er = 0 := by assumption
    have hbad := hbad h0
    have hgood := hgood h0
    refine T_fact (p := cs.length ≤ c1 ∧ (A1 = none → c1 = 0)) (fun w hw => hw.ownFacts (enc := Cl.enc) (M := 7) (et := 43) (by first | ((repeat (first | with_reducible exact List.mem_cons_self | with_reducible apply List.mem_cons_of_mem)); done) | (repeat (first | exact List.Mem.head _ | apply List.Mem.tail)))) fun hf0 => ?_
    have hca := hf0.1
    refine T_loop (X := Nat) (fun k => [(23, .int .i64 (k : Nat)), (22, .int .i64 cs.length), (21, .slice A1 cs.length c1), (4, .slice A1 cs.length c1)]) (fun _ => [entOwn Cl.enc 7 43 A1 c1 cs]) (fun k => k ≤ cs.length ∧ ∀ i, i < k → clsB cs i = false) (fun k => cs.length - k) 0 ⟨by omega, fun i hi => by omega⟩ (by (repeat (first | exact SubE.nil _ | refine SubE.cons rfl ?_))) (fun w' hw => hw.sel (by (repeat (first | exact Sel.nil _ | (apply Sel.cons; (repeat (first | with_reducible exact Pick.here _ _ | with_reducible apply Pick.there))))))) ?_
    rintro k ⟨hk, hno⟩
    by_cases hkl : k < cs.length
    · have hck := clK_eq hkl
      have hcl : clsB cs k = ((decide (cs[k].kind = 4) && decide (cs[k].to = -1)) || (decide (cs[k].kind = 3) && (List.range k).any fun j => decide ((clK cs j).kind = 3) && decide ((clK cs j).arg = cs[k].arg))) := by unfold clsB; rw [hck]
      have hbk := hbad k hkl
      refine T_own (enc := Cl.enc) (ls := cs) (by first | ((repeat (first | with_reducible exact List.mem_cons_self | with_reducible apply List.mem_cons_of_mem)); done) | (repeat (first | exact List.Mem.head _ | apply List.Mem.tail))) (by omega) ?_
      rintro gC rfl
      by_cases h4 : cs[k].kind = 4 ∧ cs[k].to = -1
      · obtain rfl := hbk (by rw [hcl, decide_eq_true h4.1, decide_eq_true h4.2]; rfl)
        repeat' (first | ((first | with_reducible (first | apply TL_q | apply TD_q0 | apply TD_q1 | apply TD_q2 | apply TD_q3) | ((with_reducible (first | apply TD_q0y | apply TD_q1y)); exact rfl; exact rfl; (with_reducible exact rfl))); (first | ((with_reducible apply QS_sliceHigh); exact rfl; exact rfl; omega) | exact QS.auto); exact rfl) | (refine GO ?_) | (refine GOE ?_; (first | (rintro _ _ ⟨rfl, rfl⟩) | (rintro _ _ ⟨g, rfl, rfl⟩) | (rintro _ _ ⟨A', c', rfl, rfl⟩))) | ((refine GO2 ?_ ?_) <;> intro h <;> (try (repeat (first | with_reducible (replace h := of_decide_eq_true h) | with_reducible (replace h := of_decide_eq_false h) | with_reducible (replace h := bnt h) | with_reducible (replace h := bnf h) | with_reducible (replace h := Int.not_lt.mp h) | with_reducible (replace h := Int.not_le.mp h) | with_reducible (replace h := band_dec h) | with_reducible (replace h := band_decF h) | with_reducible (replace h := bor_dec h) | with_reducible (replace h := bor_decF h)))) <;> (try (exfalso; first | contradiction | omega))) | fail)
        all_goals first
          | (exfalso; omega)
          | ((refine At_ret Try.results23 rfl (fun w' hw => ?_)); exact ⟨none, 0, rfl, Own.nil _ _, hw.below0 rfl⟩)
      · have h4b : (decide (cs[k].kind = 4) && decide (cs[k].to = -1)) = false := by rw [Bool.eq_false_iff]; intro e; simp only [Bool.and_eq_true, decide_eq_true_eq] at e; exact h4 e
        rw [h4b, Bool.false_or] at hcl
        have hyes : ∀ q, q < k → cs[k].kind = 3 → (clK cs q).kind = 3 → (clK cs q).arg = cs[k].arg → R = ([], 6) := fun q hq e1 e2 e3 => hbk (by
          rw [hcl, decide_eq_true e1, Bool.true_and, List.any_eq_true]
          exact ⟨q, List.mem_range.2 hq, by simp [e2, e3]⟩)
        have hnn : (∀ q, q < k → (decide (cs[k].kind = 3) && (decide ((clK cs q).kind = 3) && decide ((clK cs q).arg = cs[k].arg))) = false) → clsB cs k = false := fun hq => by
          rw [hcl]
          by_cases e : cs[k].kind = 3
          · rw [decide_eq_true e, Bool.true_and, List.any_eq_false]
            intro q hq2
            have := hq q (List.mem_range.1 hq2)
            rw [decide_eq_true e, Bool.true_and] at this
            rw [this]; decide
          · rw [decide_eq_false e]; rfl
        clear hcl hbk hbad
        by_cases hk4 : cs[k].kind = 4
        all_goals
          repeat' (first | ((first | with_reducible (first | apply TL_q | apply TD_q0 | apply TD_q1 | apply TD_q2 | apply TD_q3) | ((with_reducible (first | apply TD_q0y | apply TD_q1y)); exact rfl; exact rfl; (with_reducible exact rfl))); (first | ((with_reducible apply QS_sliceHigh); exact rfl; exact rfl; omega) | exact QS.auto); exact rfl) | (refine GO ?_) | (refine GOE ?_; (first | (rintro _ _ ⟨rfl, rfl⟩) | (rintro _ _ ⟨g, rfl, rfl⟩) | (rintro _ _ ⟨A', c', rfl, rfl⟩))) | ((refine GO2 ?_ ?_) <;> intro h <;> (try (repeat (first | with_reducible (replace h := of_decide_eq_true h) | with_reducible (replace h := of_decide_eq_false h) | with_reducible (replace h := bnt h) | with_reducible (replace h := bnf h) | with_reducible (replace h := Int.not_lt.mp h) | with_reducible (replace h := Int.not_le.mp h) | with_reducible (replace h := band_dec h) | with_reducible (replace h := band_decF h) | with_reducible (replace h := bor_dec h) | with_reducible (replace h := bor_decF h)))) <;> (try (exfalso; first | contradiction | omega))) | fail)
          all_goals first | (exfalso; omega) | skip
          refine T_loop (X := Nat) (fun j => [(40, .int .i64 (j : Nat)), (39, .int .i64 (k : Nat)), (38, .slice (some ⟨gC, 0, none⟩) k c1), (8, .pointer (some ⟨g, 0, none⟩)), (23, .int .i64 (k : Nat)), (22, .int .i64 cs.length), (21, .slice (some ⟨gC, 0, none⟩) cs.length c1), (4, .slice (some ⟨gC, 0, none⟩) cs.length c1)]) (fun _ => [entBlk g 43 (Cl.enc cs[k]).toArray, entOwn Cl.enc 7 43 (some ⟨gC, 0, none⟩) c1 cs])
            (fun j => j ≤ k ∧ ∀ q, q < j → (decide (cs[k].kind = 3) && (decide ((clK cs q).kind = 3) && decide ((clK cs q).arg = cs[k].arg))) = false) (fun j => k - j) 0 ⟨by omega, fun q hq => by omega⟩ (by (repeat (first | exact SubE.nil _ | refine SubE.cons rfl ?_))) (fun w' hw => hw.sel (by (repeat (first | exact Sel.nil _ | (apply Sel.cons; (repeat (first | with_reducible exact Pick.here _ _ | with_reducible apply Pick.there))))))) ?_
          rintro j ⟨hj, hjn⟩
          by_cases hjk : j < k
          · have hcj := clK_eq (cs := cs) (i := j) (by omega)
            have hyj := hyes j hjk
            have hnj : (decide (cs[k].kind = 3) && (decide ((clK cs j).kind = 3) && decide ((clK cs j).arg = cs[k].arg))) = false → ∀ q, q < j + 1 → (decide (cs[k].kind = 3) && (decide ((clK cs q).kind = 3) && decide ((clK cs q).arg = cs[k].arg))) = false := fun hb q hq => (Nat.lt_succ_iff_lt_or_eq.1 hq).elim (fun e => hjn q e) (fun e => by subst e; exact hb)
            rw [hcj] at hyj hnj
            repeat' (first | ((first | with_reducible (first | apply TL_q | apply TD_q0 | apply TD_q1 | apply TD_q2 | apply TD_q3) | ((with_reducible (first | apply TD_q0y | apply TD_q1y)); exact rfl; exact rfl; (with_reducible exact rfl))); (first | ((with_reducible apply QS_sliceHigh); exact rfl; exact rfl; omega) | exact QS.auto); exact rfl) | (refine GO ?_) | (refine GOE ?_; (first | (rintro _ _ ⟨rfl, rfl⟩) | (rintro _ _ ⟨g, rfl, rfl⟩) | (rintro _ _ ⟨A', c', rfl, rfl⟩))) | ((refine GO2 ?_ ?_) <;> intro h <;> (try (repeat (first | with_reducible (replace h := of_decide_eq_true h) | with_reducible (replace h := of_decide_eq_false h) | with_reducible (replace h := bnt h) | with_reducible (replace h := bnf h) | with_reducible (replace h := Int.not_lt.mp h) | with_reducible (replace h := Int.not_le.mp h) | with_reducible (replace h := band_dec h) | with_reducible (replace h := band_decF h) | with_reducible (replace h := bor_dec h) | with_reducible (replace h := bor_decF h)))) <;> (try (exfalso; first | contradiction | omega))) | fail)
            all_goals first
              | (exfalso; omega)
              | ((refine At_ret Try.results23 rfl (fun w' hw => ?_)); obtain rfl := hyj (by assumption) (by assumption) (by omega); exact ⟨none, 0, rfl, Own.nil _ _, hw.below0 rfl⟩)
              | exact At_rounds (j + 1) ⟨hjk, hnj (by simp [*]; try omega)⟩ (by omega) (by (repeat (first | exact SubE.nil _ | refine SubE.cons rfl ?_))) (fun w' hw => hw.sel (by (repeat (first | exact Sel.nil _ | (apply Sel.cons; (repeat (first | with_reducible exact Pick.here _ _ | with_reducible apply Pick.there)))))))
          · obtain rfl : j = k := by omega
            have hbn := hnn hjn
            repeat' (first | ((first | with_reducible (first | apply TL_q | apply TD_q0 | apply TD_q1 | apply TD_q2 | apply TD_q3) | ((with_reducible (first | apply TD_q0y | apply TD_q1y)); exact rfl; exact rfl; (with_reducible exact rfl))); (first | ((with_reducible apply QS_sliceHigh); exact rfl; exact rfl; omega) | exact QS.auto); exact rfl) | (refine GO ?_) | (refine GOE ?_; (first | (rintro _ _ ⟨rfl, rfl⟩) | (rintro _ _ ⟨g, rfl, rfl⟩) | (rintro _ _ ⟨A', c', rfl, rfl⟩))) | ((refine GO2 ?_ ?_) <;> intro h <;> (try (repeat (first | with_reducible (replace h := of_decide_eq_true h) | with_reducible (replace h := of_decide_eq_false h) | with_reducible (replace h := bnt h) | with_reducible (replace h := bnf h) | with_reducible (replace h := Int.not_lt.mp h) | with_reducible (replace h := Int.not_le.mp h) | with_reducible (replace h := band_dec h) | with_reducible (replace h := band_decF h) | with_reducible (replace h := bor_dec h) | with_reducible (replace h := bor_decF h)))) <;> (try (exfalso; first | contradiction | omega))) | fail)
            exact At_rounds (j + 1) ⟨hkl, fun i hi => (Nat.lt_succ_iff_lt_or_eq.1 hi).elim (fun e => hno i e) (fun e => by subst e; exact hbn)⟩ (by omega) (by (repeat (first | exact SubE.nil _ | refine SubE.cons rfl ?_))) (fun w' hw => hw.sel (by (repeat (first | exact Sel.nil _ | (apply Sel.cons; (repeat (first | with_reducible exact Pick.here _ _ | with_reducible apply Pick.there)))))))
    · obtain rfl : k = cs.length := by omega
      obtain rfl := hgood hno
      repeat' (first | ((first | with_reducible (first | apply TL_q | apply TD_q0 | apply TD_q1 | apply TD_q2 | apply TD_q3) | ((with_reducible (first | apply TD_q0y | apply TD_q1y)); exact rfl; exact rfl; (with_reducible exact rfl))); (first | ((with_reducible apply QS_sliceHigh); exact rfl; exact rfl; omega) | exact QS.auto); exact rfl) | (refine GO ?_) | (refine GOE ?_; (first | (rintro _ _ ⟨rfl, rfl⟩) | (rintro _ _ ⟨g, rfl, rfl⟩) | (rintro _ _ ⟨A', c', rfl, rfl⟩))) | ((refine GO2 ?_ ?_) <;> intro h <;> (try (repeat (first | with_reducible (replace h := of_decide_eq_true h) | with_reducible (replace h := of_decide_eq_false h) | with_reducible (replace h := bnt h) | with_reducible (replace h := bnf h) | with_reducible (replace h := Int.not_lt.mp h) | with_reducible (replace h := Int.not_le.mp h) | with_reducible (replace h := band_dec h) | with_reducible (replace h := band_decF h) | with_reducible (replace h := bor_dec h) | with_reducible (replace h := bor_decF h)))) <;> (try (exfalso; first | contradiction | omega))) | fail)
      (refine At_ret Try.results23 rfl (fun w' hw => ?_))
      exact ⟨A1, c1, rfl, hw.ownOut rfl (by first | ((repeat (first | with_reducible exact List.mem_cons_self | with_reducible apply List.mem_cons_of_mem)); done) | (repeat (first | exact List.Mem.head _ | apply List.Mem.tail))), hw.below0 rfl⟩
end
end Go.Proofs.Ytbhjljnbjomnhaa

namespace Go.Proofs.Ytbhjljnbjomnhaa
open Go.RowKit
theorem flat_setW {α : Type} {enc : α → List Value} {M : Nat} (hM : ∀ x, (enc x).length = M) (xx : α) : ∀ (ls : List α) (j : Nat), j < ls.length →
    (ls.set j xx).flatMap enc = (ls.flatMap enc).take (j * M) ++ enc xx ++ (ls.flatMap enc).drop (j * M + M)
  | [], _, h => by simp at h
  | x :: ls, 0, _ => by
    simp only [List.set_cons_zero, List.flatMap_cons, Nat.zero_mul, List.take_zero, List.nil_append, Nat.zero_add]
    rw [List.drop_append, List.drop_eq_nil_of_le (by rw [hM]; exact Nat.le_refl _), hM, Nat.sub_self]
    simp
  | x :: ls, j + 1, h => by
    have ih := flat_setW hM xx ls j (by simpa using h)
    have e : (j + 1) * M = M + j * M := by rw [Nat.succ_mul]; omega
    simp only [List.set_cons_succ, List.flatMap_cons, ih, e]
    have t1 : List.take (M + j * M) (enc x ++ ls.flatMap enc) = enc x ++ (ls.flatMap enc).take (j * M) := by
      rw [List.take_append, List.take_of_length_le (l := enc x) (by rw [hM]; omega), hM, show M + j * M - M = j * M by omega]
    have t2 : List.drop (M + j * M + M) (enc x ++ ls.flatMap enc) = (ls.flatMap enc).drop (j * M + M) := by
      rw [List.drop_append, List.drop_of_length_le (l := enc x) (by rw [hM]; omega), hM, show M + j * M + M - M = j * M + M by omega, List.nil_append]
    rw [t1, t2]
    simp
section
variable {P : Program} {C : Ctx} {E : Slots} {S S' : List Ent} {ty s g c M e j : Nat} {ps : String} {af : Array Edge} {g0 : Option (Nat × Bool)} {x y : Operand} {α : Type} {enc : α → List Value} {ls : List α}
theorem ES_storeOwnAgg [hs : AggOf P s M] {xx : α} {us : List Value} (hx : evo E x = some (.pointer (some ⟨g, j * M, none⟩))) (hy : evo E y = some (.agg us.toArray)) (he : us = enc xx)
    (hu : Upd S (entOwn enc M e (some ⟨g, 0, none⟩) c ls) (entOwn enc M e (some ⟨g, 0, none⟩) c (ls.set j xx)) S') (hM : ∀ x, (enc x).length = M) (hj : j < ls.length) (h1 : (enc xx).all (·.oneCell') = true) :
    ES P C E S ⟨none, .store s x y, ty, ps, af, g0⟩ (fun E' T => E' = E ∧ T = S') := by
  subst he
  refine (ES_skip (fun T => T = S') (fun a w ha hw => ?_)).weak (by rintro _ _ ⟨rfl, rfl⟩; exact ⟨rfl, rfl⟩)
  have ho : Own enc M e w 0 (.slice (some ⟨g, 0, none⟩) ls.length c) ls := (hw.holds _ hu.mem).1
  obtain ⟨g', cap, cur, hv, hbb, hg, hnc, hcm, hcs, htake⟩ := ho.2.resolve_left (by simp)
  simp only [Value.slice.injEq, Option.some.injEq, Addr.mk.injEq, and_true, true_and] at hv
  obtain ⟨rfl, rfl⟩ := hv
  have hjM : j * M + M ≤ ls.length * M := by rw [← Nat.succ_mul]; exact Nat.mul_le_mul_right _ hj
  have hnM : ls.length * M ≤ c * M := Nat.mul_le_mul_right _ hnc
  have hfit : j * M + (enc xx).length ≤ cur.size := by rw [hM, hcs]; omega
  have hst := run_storeCells_at P g (j * M) e (enc xx) 0 cur w hg (by simpa using hfit) (fun u hu => List.all_eq_true.1 h1 u hu)
  simp only [Nat.add_zero] at hst
  have hcl : (cur.toList.take (j * M) ++ enc xx ++ cur.toList.drop (j * M + (enc xx).length)).length = cur.size := by
    simp only [List.length_append, List.length_take, List.length_drop, Array.length_toList]; omega
  refine ⟨w.setRow g (cur.toList.take (j * M) ++ enc xx ++ cur.toList.drop (j * M + (enc xx).length)).toArray, S', ?_, ?_, rfl⟩
  · have hsz : (Value.agg (enc xx).toArray).cells.size = M := by simp [Value.cells, hM]
    simp only [execOp, ha.evo hx, ha.evo hy, Instr.storeAt, Instr.sureAddr, storeVar, Sem.run_bind, Sem.run_pure, Result.andThen_ok, hs.size w, hsz]
    simp [Value.cells, hst]
  · refine hw.upd hu (Keeps.setRow w g _) (by simp [entOwn, Value.ownBlock]) (fun k hk => ?_) ?_
    · have hk' : some g = some k := hk
      cases hk'
      exact ⟨by simpa using (Array.getElem?_eq_some_iff.1 hg).1, .inl rfl⟩
    · show Own enc M e _ 0 (.slice (some ⟨g, 0, none⟩) (ls.set j xx).length c) (ls.set j xx)
      refine ⟨flat_len hM _, .inr ⟨g, c, _, rfl, Nat.zero_le _, setRow_heap w g cur _ e _ hg, by simpa using hnc, hcm, ?_, ?_⟩⟩
      · simp only [List.size_toArray]; rw [hcl, hcs]
      · rw [flat_setW hM xx ls j hj]
        simp only [List.length_set]
        rw [← htake, hM]
        have l1 : (cur.toList.take (j * M)).length = j * M := by rw [List.length_take, Array.length_toList, hcs]; omega
        have l2 : (cur.toList.take (j * M) ++ enc xx).length = j * M + M := by rw [List.length_append, l1, hM]
        rw [List.take_append, List.take_of_length_le (by rw [l2]; omega), l2, List.take_take, Nat.min_eq_left (by omega), List.drop_take]
theorem QS_indexVal {cs : Array Value} {n e j : Nat} {k : IntKind} {v : Value} [hs : ArrayOf P s n e 1] [h1 : OneCell P e] (hx : evo E x = some (.agg cs)) (hy : evo E y = some (.int k (j : Nat))) (hj : j < n) (hv : nthV cs.toList j = some v) : QS P C E S (.index s x y) ty v :=
  QS.of (fun a w ha _ => by
    have hr : (Instr.index s (.agg cs) (.int k (j : Nat))).run P w = .ok v w := by
      unfold Instr.index
      have h0 : (asIntOf (.int k (j : Nat))).run P w = .ok (k, (j : Int)) w := rfl
      have hj' : 0 ≤ (j : Int) ∧ (j : Int) < (n : Int) := by omega
      have hc : cs[j]? = some v := by rw [← hv, ← nthV_eq]; simp
      simp only [Sem.run_bind, h0, Result.andThen_ok, run_underlying hs.und, if_pos hj', hs.size w, Int.toNat_natCast, Nat.mul_one, part, h1.agg w]
      simp [hc]
    simp [execOp, ha.evo hx, ha.evo hy, hr])
theorem ES_makeSliceL {t d bytes n : Nat} {z : Value} {k k' : IntKind} {z0 : α} {zz : Int} [hs : SliceOf P t e M] [hi : InfoOf P e z M bytes] (hx : evo E x = some (.int k zz)) (hy : evo E y = some (.int k' zz)) (hn : IntLit zz n) (hz : z.cells.toList = enc z0)
    (hb : n * bytes ≤ 140737488355328) (hb0 : 0 < bytes) (hd : Nat.ble (d + 1) C.n = true) :
    ES P C E S ⟨some d, .makeSlice t x y, ty, ps, af, g0⟩ (fun E' T => ∃ g, E' = (d, .slice (some ⟨g, 0, none⟩) n n) :: E ∧ T = entOwn enc M e (some ⟨g, 0, none⟩) n (List.replicate n z0) :: S) :=
  ES_makeSlice (by rw [hx, hn.eq]) (by rw [hy, hn.eq]) hz hb hb0 hd
end
end Go.Proofs.Ytbhjljnbjomnhaa

namespace Go.Proofs.Ytbhjljnbjomnhaa
open Go.RowKit
theorem between_C (a b c : Int) (w : World) : Calls Try.prog 14 #[.int .i64 a, .int .i64 b, .int .i64 c] w fun e w' => e = .returned (.bool (decide (b ≤ a) && decide (a ≤ c))) ∧ Below w.heap.size w w' :=
  Calls.same_below (between_any a b c w)
set_option maxRecDepth 100000 in
theorem kinds_C (t : Int) (w : World) : Calls Try.prog 63 #[.int .i64 t] w fun e w' => ∃ A c, e = .returned (.slice A (kindsL t).length c) ∧ Own intEnc 1 3 w' w.heap.size (.slice A (kindsL t).length c) (kindsL t) ∧ Below w.heap.size w w' := by
  refine calls_T (S := []) [] Try.func63 rfl Try.ntmps63 (by simp) (Mem.nil _) ?_
  repeat' (first | (refine GO ?_) | (refine GOE ?_; (first | (rintro _ _ ⟨rfl, rfl⟩) | (rintro _ _ ⟨g, rfl, rfl⟩) | (rintro _ _ ⟨A', c', rfl, rfl⟩))) | ((refine GO2 ?_ ?_) <;> intro h <;> (try (repeat (first | with_reducible (replace h := of_decide_eq_true h) | with_reducible (replace h := of_decide_eq_false h) | with_reducible (replace h := bnt h) | with_reducible (replace h := bnf h) | with_reducible (replace h := Int.not_lt.mp h) | with_reducible (replace h := Int.not_le.mp h) | with_reducible (replace h := band_dec h) | with_reducible (replace h := band_decF h) | with_reducible (replace h := bor_dec h) | with_reducible (replace h := bor_decF h)))) <;> (try (exfalso; first | contradiction | omega))))
  all_goals (refine At_ret Try.results63 rfl (fun w' hw => ?_))
  all_goals try subst_vars
  all_goals first
    | exact ⟨_, _, rfl, hw.blkOut (enc := intEnc) [1, 2] rfl (by first | ((repeat (first | with_reducible exact List.mem_cons_self | with_reducible apply List.mem_cons_of_mem)); done) | (repeat (first | exact List.Mem.head _ | apply List.Mem.tail))) rfl (fun _ => rfl) (by decide), hw.below0 rfl⟩
    | exact ⟨_, _, rfl, hw.blkOut (enc := intEnc) [3, 4] rfl (by first | ((repeat (first | with_reducible exact List.mem_cons_self | with_reducible apply List.mem_cons_of_mem)); done) | (repeat (first | exact List.Mem.head _ | apply List.Mem.tail))) rfl (fun _ => rfl) (by decide), hw.below0 rfl⟩
    | exact ⟨_, _, rfl, hw.blkOut (enc := intEnc) [5, 6] rfl (by first | ((repeat (first | with_reducible exact List.mem_cons_self | with_reducible apply List.mem_cons_of_mem)); done) | (repeat (first | exact List.Mem.head _ | apply List.Mem.tail))) rfl (fun _ => rfl) (by decide), hw.below0 rfl⟩
    | exact ⟨_, _, rfl, hw.blkOut (enc := intEnc) [7, 8, 9] rfl (by first | ((repeat (first | with_reducible exact List.mem_cons_self | with_reducible apply List.mem_cons_of_mem)); done) | (repeat (first | exact List.Mem.head _ | apply List.Mem.tail))) rfl (fun _ => rfl) (by decide), hw.below0 rfl⟩
    | exact ⟨_, _, rfl, hw.blkOut (enc := intEnc) [10] rfl (by first | ((repeat (first | with_reducible exact List.mem_cons_self | with_reducible apply List.mem_cons_of_mem)); done) | (repeat (first | exact List.Mem.head _ | apply List.Mem.tail))) rfl (fun _ => rfl) (by decide), hw.below0 rfl⟩
    | (have e : kindsL t = [] := by simp [kindsL, *]
       rw [e]; exact ⟨none, 0, rfl, Own.nil _ _, hw.below0 rfl⟩)
theorem kindsC_len (t : Int) : (kindsL t).length ≤ 9223372036854775807 := by
  unfold kindsL
  repeat' split
  all_goals decide
theorem fits_C (t k : Int) (w : World) : Calls Try.prog 94 #[.int .i64 t, .int .i64 k] w fun e w' => e = .returned (.bool ((kindsL t).contains k)) ∧ Below w.heap.size w w' :=
  (Calls.same_below (fits_any t k w)).mono fun e w' h => by rw [← typeF_kinds]; exact h
theorem argument_C (k n : Int) (w : World) : Calls Try.prog 95 #[.int .i64 k, .int .i64 n] w fun e w' => e = .returned (.bool (argB k n)) ∧ Below w.heap.size w w' :=
  Calls.same_below (argument_any k n w)
end Go.Proofs.Ytbhjljnbjomnhaa
