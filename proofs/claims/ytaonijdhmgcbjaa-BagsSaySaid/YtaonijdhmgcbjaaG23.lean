/- Lemmas for the walks (Ahc, SeaB, Sub1, Bg4, KeyL, KeyS). No condition. -/
import Derived.Test.YtaonijdhmgcbjaaG07
import Derived.Test.YtaonijdhmgcbjaaG09
import Derived.Test.YtaonijdhmgcbjaaG05
import Derived.Test.YtaonijdhmgcbjaaG22
import Derived.Test.YtaonijdhmgcbjaaG06
import Derived.Test.YtaonijdhmgcbjaaG08
import Derived.Shelf.SlIterI.Nil
import Derived.Shelf.SortM.Plain
import Derived.Shelf.SortM.SortNone
import Derived.Test.YtaonijdhmgcbjaaG10
set_option linter.unusedSimpArgs false
set_option linter.unusedVariables false
set_option linter.unusedSectionVars false
set_option linter.unnecessarySimpa false
namespace Go.Proofs.Ytaonijdhmgcbjaa
open Go.RowKit

/-! who was answered ahead of whose call -/
def aheadP (cs : List Cl) (i j : Nat) : Bool := !decide ((cs.getD i default).to = -1) && decide ((cs.getD i default).to < (cs.getD j default).from_)
theorem clD {cs : List Cl} {i : Nat} (h : i < cs.length) : cs.getD i default = cs[i] := by simp [h]
def relAhead (cs : List Cl) : Nat → Nat := relN (aheadP cs) cs.length
theorem relAhead_done (cs : List Cl) : relN (fun i j => (fun _ _ => false) i j || aheadP cs i j) cs.length = relAhead cs := by simp [relAhead]
section
variable (A : Option Addr) (c : Nat) (cs : List Cl) (w : World) (hA : RdCl w A cs)
include hA
set_option maxRecDepth 100000 in
set_option maxHeartbeats 4000000 in
theorem ahead_ok (hl : cs.length ≤ 12) : Calls Try.prog 73 #[.slice A cs.length c] w fun e w' => e = .returned (.tuple #[.agg (relCells cs.length (relAhead cs)), .int .i64 0]) ∧ Below w.heap.size w w' := by
  refine calls_T (S := []) [] Try.func73 rfl Try.ntmps73 (by simp) (Mem.nil _) ?_
  repeat' (first | (refine GO ?_) | (refine GOE ?_; (first | (rintro _ _ ⟨rfl, rfl⟩) | (rintro _ _ ⟨g, rfl, rfl⟩) | (rintro _ _ ⟨A', c', rfl, rfl⟩))) | ((refine GO2 ?_ ?_) <;> intro h <;> (try (repeat (first | with_reducible (replace h := of_decide_eq_true h) | with_reducible (replace h := of_decide_eq_false h) | with_reducible (replace h := bnt h) | with_reducible (replace h := bnf h) | with_reducible (replace h := Int.not_lt.mp h) | with_reducible (replace h := Int.not_le.mp h) | with_reducible (replace h := band_dec h) | with_reducible (replace h := band_decF h) | with_reducible (replace h := bor_dec h) | with_reducible (replace h := bor_decF h)))) <;> (try (exfalso; first | contradiction | omega))) | fail)
  rename_i g2
  obtain ⟨gr, rfl⟩ : ∃ x, x = g := ⟨_, rfl⟩
  refine T_loop (X := Nat) (fun k => [(18, .int .i64 (k : Nat)), (17, .int .i64 cs.length), (16, .slice A cs.length c), (4, .pointer (some ⟨gr, 0, none⟩)), (2, .pointer (some ⟨g2, 0, none⟩)), (0, .slice A cs.length c)])
    (fun k => [entBlk gr 71 (relCells cs.length (relN (orP (fun _ _ => false) (aheadP cs) k 0) cs.length)), entBlk g2 71 (relCells 0 (fun _ => 0))]) (fun k => k ≤ cs.length) (fun k => cs.length - k) 0 (by omega) (by (repeat (first | exact SubE.nil _ | refine SubE.cons rfl ?_))) (fun w hw => by rw [orP_0, relN_0]; exact hw) ?_
  intro k hk
  by_cases hkk : k < cs.length
  · obtain ⟨b, o, rfl, _⟩ := RdE.open hA (by omega)
    repeat' (first | (refine GO ?_) | (refine GOE ?_; (first | (rintro _ _ ⟨rfl, rfl⟩) | (rintro _ _ ⟨g, rfl, rfl⟩) | (rintro _ _ ⟨A', c', rfl, rfl⟩))) | ((refine GO2 ?_ ?_) <;> intro h <;> (try (repeat (first | with_reducible (replace h := of_decide_eq_true h) | with_reducible (replace h := of_decide_eq_false h) | with_reducible (replace h := bnt h) | with_reducible (replace h := bnf h) | with_reducible (replace h := Int.not_lt.mp h) | with_reducible (replace h := Int.not_le.mp h) | with_reducible (replace h := band_dec h) | with_reducible (replace h := band_decF h) | with_reducible (replace h := bor_dec h) | with_reducible (replace h := bor_decF h)))) <;> (try (exfalso; first | contradiction | omega))) | fail)
    obtain ⟨gm, rfl⟩ : ∃ x, x = g := ⟨_, rfl⟩
    refine T_loop (X := Nat) (fun m => [(25, .int .i64 (m : Nat)), (24, .int .i64 cs.length), (23, .slice (some ⟨b, o, none⟩) cs.length c), (6, .pointer (some ⟨gm, 0, none⟩)), (5, .int .i64 (k : Nat)), (18, .int .i64 (k : Nat)), (17, .int .i64 cs.length), (16, .slice (some ⟨b, o, none⟩) cs.length c), (4, .pointer (some ⟨gr, 0, none⟩)), (2, .pointer (some ⟨g2, 0, none⟩)), (0, .slice (some ⟨b, o, none⟩) cs.length c)])
      (fun m => [entBlk gm 107 cs[k].enc.toArray, entBlk gr 71 (relCells cs.length (relN (orP (fun _ _ => false) (aheadP cs) k m) cs.length)), entBlk g2 71 (relCells 0 (fun _ => 0))]) (fun m => m ≤ cs.length) (fun m => cs.length - m) 0 (by omega) (by (repeat (first | exact SubE.nil _ | refine SubE.cons rfl ?_))) (fun w hw => hw) ?_
    intro m hml
    by_cases hmm : m < cs.length
    · have hq : aheadP cs k m = (!decide (cs[k].to = -1) && decide (cs[k].to < cs[m].from_)) := by rw [aheadP, clD hkk, clD hmm]
      have hlt := relN_lt (orP (fun _ _ => false) (aheadP cs) k m) (n := cs.length) (by omega) k
      have hpm := pow_lt_16 (m := m) (by omega)
      have hyes := relN_yes (P := fun _ _ => false) (Q := aheadP cs) hkk hmm
      have hno := relN_no (P := fun _ _ => false) (Q := aheadP cs) (n := cs.length) (k := k) (m := m)
      obtain ⟨F, hFF⟩ : ∃ F, relN (orP (fun _ _ => false) (aheadP cs) k m) cs.length = F := ⟨_, rfl⟩
      rw [hFF] at hyes hno hlt ⊢
      repeat' (first | (refine GO ?_) | (refine GOE ?_; (first | (rintro _ _ ⟨rfl, rfl⟩) | (rintro _ _ ⟨g, rfl, rfl⟩) | (rintro _ _ ⟨A', c', rfl, rfl⟩))) | ((refine GO2 ?_ ?_) <;> intro h <;> (try (repeat (first | with_reducible (replace h := of_decide_eq_true h) | with_reducible (replace h := of_decide_eq_false h) | with_reducible (replace h := bnt h) | with_reducible (replace h := bnf h) | with_reducible (replace h := Int.not_lt.mp h) | with_reducible (replace h := Int.not_le.mp h) | with_reducible (replace h := band_dec h) | with_reducible (replace h := band_decF h) | with_reducible (replace h := bor_dec h) | with_reducible (replace h := bor_decF h)))) <;> (try (exfalso; first | contradiction | omega))) | fail)
      all_goals
        refine At_rounds (m + 1) (by omega) (by omega) (by (repeat (first | exact SubE.nil _ | refine SubE.cons rfl ?_))) (fun w hw => ?_)
        first
          | (rw [← hyes (by rw [hq, decide_eq_false (show ¬ cs[k].to = -1 by assumption), decide_eq_true (by assumption)]; rfl)]; exact hw.sub (by first | ((repeat (first | with_reducible exact List.nil_sublist _ | with_reducible exact List.Sublist.refl _ | with_reducible apply List.Sublist.cons_cons | with_reducible apply List.Sublist.cons)); done) | (repeat (first | exact List.nil_sublist _ | exact List.Sublist.refl _ | apply List.Sublist.cons_cons | apply List.Sublist.cons))))
          | (rw [← hno (by rw [hq, decide_eq_true (show cs[k].to = -1 by assumption)]; rfl)]; exact hw.sub (by first | ((repeat (first | with_reducible exact List.nil_sublist _ | with_reducible exact List.Sublist.refl _ | with_reducible apply List.Sublist.cons_cons | with_reducible apply List.Sublist.cons)); done) | (repeat (first | exact List.nil_sublist _ | exact List.Sublist.refl _ | apply List.Sublist.cons_cons | apply List.Sublist.cons))))
          | (rw [← hno (by rw [hq, decide_eq_false (show ¬ cs[k].to < cs[m].from_ by omega)]; simp)]; exact hw.sub (by first | ((repeat (first | with_reducible exact List.nil_sublist _ | with_reducible exact List.Sublist.refl _ | with_reducible apply List.Sublist.cons_cons | with_reducible apply List.Sublist.cons)); done) | (repeat (first | exact List.nil_sublist _ | exact List.Sublist.refl _ | apply List.Sublist.cons_cons | apply List.Sublist.cons))))
    · obtain rfl : m = cs.length := by omega
      repeat' (first | (refine GO ?_) | (refine GOE ?_; (first | (rintro _ _ ⟨rfl, rfl⟩) | (rintro _ _ ⟨g, rfl, rfl⟩) | (rintro _ _ ⟨A', c', rfl, rfl⟩))) | ((refine GO2 ?_ ?_) <;> intro h <;> (try (repeat (first | with_reducible (replace h := of_decide_eq_true h) | with_reducible (replace h := of_decide_eq_false h) | with_reducible (replace h := bnt h) | with_reducible (replace h := bnf h) | with_reducible (replace h := Int.not_lt.mp h) | with_reducible (replace h := Int.not_le.mp h) | with_reducible (replace h := band_dec h) | with_reducible (replace h := band_decF h) | with_reducible (replace h := bor_dec h) | with_reducible (replace h := bor_decF h)))) <;> (try (exfalso; first | contradiction | omega))) | fail)
      refine At_rounds (k + 1) (by omega) (by omega) (by (repeat (first | exact SubE.nil _ | refine SubE.cons rfl ?_))) (fun w hw => ?_)
      rw [← relN_next]
      exact hw.sub (by first | ((repeat (first | with_reducible exact List.nil_sublist _ | with_reducible exact List.Sublist.refl _ | with_reducible apply List.Sublist.cons_cons | with_reducible apply List.Sublist.cons)); done) | (repeat (first | exact List.nil_sublist _ | exact List.Sublist.refl _ | apply List.Sublist.cons_cons | apply List.Sublist.cons)))
  · obtain rfl : k = cs.length := by omega
    repeat' (first | (refine GO ?_) | (refine GOE ?_; (first | (rintro _ _ ⟨rfl, rfl⟩) | (rintro _ _ ⟨g, rfl, rfl⟩) | (rintro _ _ ⟨A', c', rfl, rfl⟩))) | ((refine GO2 ?_ ?_) <;> intro h <;> (try (repeat (first | with_reducible (replace h := of_decide_eq_true h) | with_reducible (replace h := of_decide_eq_false h) | with_reducible (replace h := bnt h) | with_reducible (replace h := bnf h) | with_reducible (replace h := Int.not_lt.mp h) | with_reducible (replace h := Int.not_le.mp h) | with_reducible (replace h := band_dec h) | with_reducible (replace h := band_decF h) | with_reducible (replace h := bor_dec h) | with_reducible (replace h := bor_decF h)))) <;> (try (exfalso; first | contradiction | omega))) | fail)
    ((with_reducible apply At_retM Try.results73); (repeat (first | exact ResIs.nil | (apply ResIs.tmp; exact rfl) | (apply ResIs.cell; exact rfl; exact Lds.auto))); intro w' hw)
    exact ⟨by rw [← relAhead_done, ← relN_done]; rfl, hw.below0 rfl⟩
set_option maxRecDepth 100000 in
set_option maxHeartbeats 4000000 in
theorem callRel_any (hl : cs.length ≤ 12) : Calls Try.prog 24 #[.slice A cs.length c] w fun e w' => e = .returned (.agg (relCells cs.length (relAhead cs))) ∧ Below w.heap.size w w' := by
  refine calls_T (S := []) [] Try.func24 rfl Try.ntmps24 (by simp) (Mem.nil _) ?_
  repeat' (first | (refine GO ?_) | (refine GOE ?_; (first | (rintro _ _ ⟨rfl, rfl⟩) | (rintro _ _ ⟨g, rfl, rfl⟩) | (rintro _ _ ⟨A', c', rfl, rfl⟩))) | ((refine GO2 ?_ ?_) <;> intro h <;> (try (repeat (first | with_reducible (replace h := of_decide_eq_true h) | with_reducible (replace h := of_decide_eq_false h) | with_reducible (replace h := bnt h) | with_reducible (replace h := bnf h) | with_reducible (replace h := Int.not_lt.mp h) | with_reducible (replace h := Int.not_le.mp h) | with_reducible (replace h := band_dec h) | with_reducible (replace h := band_decF h) | with_reducible (replace h := bor_dec h) | with_reducible (replace h := bor_decF h)))) <;> (try (exfalso; first | contradiction | omega))) | fail)
  rename_i g2
  obtain ⟨gr, rfl⟩ : ∃ x, x = g := ⟨_, rfl⟩
  refine T_loop (X := Nat) (fun k => [(11, .int .i64 (k : Nat)), (10, .int .i64 cs.length), (3, .pointer (some ⟨gr, 0, none⟩)), (2, .pointer (some ⟨g2, 0, none⟩)), (0, .slice A cs.length c)])
    (fun k => [entBlk gr 71 (relCells cs.length (relN (orP (fun _ _ => false) (aheadP cs) k 0) cs.length)), entBlk g2 71 (relCells 0 (fun _ => 0))]) (fun k => k ≤ cs.length) (fun k => cs.length - k) 0 (by omega) (by (repeat (first | exact SubE.nil _ | refine SubE.cons rfl ?_))) (fun w hw => by rw [orP_0, relN_0]; exact hw) ?_
  intro k hk
  by_cases hkk : k < cs.length
  · obtain ⟨b, o, rfl, _⟩ := RdE.open hA (by omega)
    repeat' (first | (refine GO ?_) | (refine GOE ?_; (first | (rintro _ _ ⟨rfl, rfl⟩) | (rintro _ _ ⟨g, rfl, rfl⟩) | (rintro _ _ ⟨A', c', rfl, rfl⟩))) | ((refine GO2 ?_ ?_) <;> intro h <;> (try (repeat (first | with_reducible (replace h := of_decide_eq_true h) | with_reducible (replace h := of_decide_eq_false h) | with_reducible (replace h := bnt h) | with_reducible (replace h := bnf h) | with_reducible (replace h := Int.not_lt.mp h) | with_reducible (replace h := Int.not_le.mp h) | with_reducible (replace h := band_dec h) | with_reducible (replace h := band_decF h) | with_reducible (replace h := bor_dec h) | with_reducible (replace h := bor_decF h)))) <;> (try (exfalso; first | contradiction | omega))) | fail)
    refine T_loop (X := Nat) (fun m => [(16, .int .i64 (m : Nat)), (15, .int .i64 cs.length), (4, .int .i64 (k : Nat)), (11, .int .i64 (k : Nat)), (10, .int .i64 cs.length), (3, .pointer (some ⟨gr, 0, none⟩)), (2, .pointer (some ⟨g2, 0, none⟩)), (0, .slice (some ⟨b, o, none⟩) cs.length c)])
      (fun m => [entBlk gr 71 (relCells cs.length (relN (orP (fun _ _ => false) (aheadP cs) k m) cs.length)), entBlk g2 71 (relCells 0 (fun _ => 0))]) (fun m => m ≤ cs.length) (fun m => cs.length - m) 0 (by omega) (by (repeat (first | exact SubE.nil _ | refine SubE.cons rfl ?_))) (fun w hw => hw) ?_
    intro m hml
    by_cases hmm : m < cs.length
    · have hq : aheadP cs k m = (!decide (cs[k].to = -1) && decide (cs[k].to < cs[m].from_)) := by rw [aheadP, clD hkk, clD hmm]
      have hlt := relN_lt (orP (fun _ _ => false) (aheadP cs) k m) (n := cs.length) (by omega) k
      have hpm := pow_lt_16 (m := m) (by omega)
      have hyes := relN_add (P := fun _ _ => false) (Q := aheadP cs) hkk hmm
      have hno := relN_no (P := fun _ _ => false) (Q := aheadP cs) (n := cs.length) (k := k) (m := m)
      have hlt2 := fun h => congrArg (fun f => f k) (hyes h rfl)
      have hlt3 := relN_lt (orP (fun _ _ => false) (aheadP cs) k (m + 1)) (n := cs.length) (by omega) k
      obtain ⟨F, hFF⟩ : ∃ F, relN (orP (fun _ _ => false) (aheadP cs) k m) cs.length = F := ⟨_, rfl⟩
      rw [hFF] at hyes hno hlt hlt2 ⊢
      repeat' (first
        | (refine GG ?_) | (refine GE ?_; (first | (rintro _ _ ⟨rfl, rfl⟩) | (rintro _ _ ⟨g, rfl, rfl⟩) | (rintro _ _ ⟨A', c', rfl, rfl⟩)); (try refine ⟨SUB, ?_⟩)) | ((refine GO2 ?_ ?_) <;> intro h <;> (try (repeat (first | with_reducible (replace h := of_decide_eq_true h) | with_reducible (replace h := of_decide_eq_false h) | with_reducible (replace h := bnt h) | with_reducible (replace h := bnf h) | with_reducible (replace h := Int.not_lt.mp h) | with_reducible (replace h := Int.not_le.mp h) | with_reducible (replace h := band_dec h) | with_reducible (replace h := band_decF h) | with_reducible (replace h := bor_dec h) | with_reducible (replace h := bor_decF h)))) <;> (try (exfalso; first | contradiction | omega))) | (refine GOF ?_ ?_) | ((with_reducible apply T_draw (id := 8) 1000 (OT.seq [(0, 0), (0, 1), (0, 2), (0, 3), (1, 4), (0, 5), (0, 6), (0, 7), (0, 8), (0, 9), (0, 10), (0, 12), (0, 13), (0, 14), (0, 15), (1, 11), (1, 16), (0, 17), (0, 18)] .nil)); kernel_rfl; exact rfl; kernel_rfl; (repeat (first | with_reducible exact Blind.body | with_reducible apply Blind.seq | with_reducible apply Blind.block))) | ((with_reducible apply T_draw (id := 9) 9 (OT.seq [(0, 0), (0, 1), (0, 2), (0, 4), (0, 5), (0, 7), (1, 3), (0, 6), (0, 8), (3, 9)] .nil)); kernel_rfl; exact rfl; kernel_rfl; (repeat (first | with_reducible exact Blind.body | with_reducible apply Blind.seq | with_reducible apply Blind.block))) | ((with_reducible apply TD_q0); (with_reducible apply QS_add16); exact rfl; exact rfl; exact rfl) | ((with_reducible apply TD_q1); (with_reducible apply QS_add16); exact rfl; exact rfl; exact rfl) | fail)
      all_goals
        refine At_rounds (m + 1) (by omega) (by omega) (by (repeat (first | exact SubE.nil _ | refine SubE.cons rfl ?_))) (fun w hw => ?_)
        first
          | (have hQ : aheadP cs k m = true := by rw [hq, decide_eq_false (show ¬ cs[k].to = -1 by assumption), decide_eq_true (by assumption)]; rfl
             have h3 := hlt2 hQ
             simp only [upd_same] at h3
             rw [← hyes hQ rfl, show F k + 2 ^ m = (F k + 2 ^ m) % 65536 by rw [Nat.mod_eq_of_lt (by omega)]]
             exact hw)
          | (rw [← hno (by rw [hq, decide_eq_true (show cs[k].to = -1 by assumption)]; rfl)]; exact hw)
          | (rw [← hno (by rw [hq, decide_eq_false (show ¬ cs[k].to < cs[m].from_ by omega)]; simp)]; exact hw)
    · obtain rfl : m = cs.length := by omega
      repeat' (first | (refine GG ?_) | (refine GE ?_; (first | (rintro _ _ ⟨rfl, rfl⟩) | (rintro _ _ ⟨g, rfl, rfl⟩) | (rintro _ _ ⟨A', c', rfl, rfl⟩)); (try refine ⟨SUB, ?_⟩)) | ((refine GO2 ?_ ?_) <;> intro h <;> (try (repeat (first | with_reducible (replace h := of_decide_eq_true h) | with_reducible (replace h := of_decide_eq_false h) | with_reducible (replace h := bnt h) | with_reducible (replace h := bnf h) | with_reducible (replace h := Int.not_lt.mp h) | with_reducible (replace h := Int.not_le.mp h) | with_reducible (replace h := band_dec h) | with_reducible (replace h := band_decF h) | with_reducible (replace h := bor_dec h) | with_reducible (replace h := bor_decF h)))) <;> (try (exfalso; first | contradiction | omega))) | (refine GOF ?_ ?_) | fail)
      refine At_rounds (k + 1) (by omega) (by omega) (by (repeat (first | exact SubE.nil _ | refine SubE.cons rfl ?_))) (fun w hw => ?_)
      rw [← relN_next]
      exact hw
  · obtain rfl : k = cs.length := by omega
    repeat' (first | (refine GO ?_) | (refine GOE ?_; (first | (rintro _ _ ⟨rfl, rfl⟩) | (rintro _ _ ⟨g, rfl, rfl⟩) | (rintro _ _ ⟨A', c', rfl, rfl⟩))) | ((refine GO2 ?_ ?_) <;> intro h <;> (try (repeat (first | with_reducible (replace h := of_decide_eq_true h) | with_reducible (replace h := of_decide_eq_false h) | with_reducible (replace h := bnt h) | with_reducible (replace h := bnf h) | with_reducible (replace h := Int.not_lt.mp h) | with_reducible (replace h := Int.not_le.mp h) | with_reducible (replace h := band_dec h) | with_reducible (replace h := band_decF h) | with_reducible (replace h := bor_dec h) | with_reducible (replace h := bor_decF h)))) <;> (try (exfalso; first | contradiction | omega))) | fail)
    ((with_reducible apply At_retM Try.results24); (repeat (first | exact ResIs.nil | (apply ResIs.tmp; exact rfl) | (apply ResIs.cell; exact rfl; exact Lds.auto))); intro w' hw)
    exact ⟨by rw [← relAhead_done, ← relN_done]; rfl, hw.below0 rfl⟩
end
end Go.Proofs.Ytaonijdhmgcbjaa

namespace Go.Proofs.Ytaonijdhmgcbjaa
open Go.RowKit

/-- the calls, if they are few enough; what is wrong -/
def fewS (ts : List Int) (l : List Ev) : List Cl × Int := if (callsR ts l).2.2 ≠ 0 then ([], (callsR ts l).2.2) else if 9 < (callsR ts l).1.length then ([], 2) else ((callsR ts l).1, 0)
theorem fewS_err {ts : List Int} {l : List Ev} (h : ¬ (callsR ts l).2.2 = 0) : fewS ts l = ([], (callsR ts l).2.2) := by unfold fewS; rw [if_pos h]
theorem fewS_large {ts : List Int} {l : List Ev} (h : (callsR ts l).2.2 = 0) (h9 : 9 < (callsR ts l).1.length) : fewS ts l = ([], 2) := by unfold fewS; rw [if_neg (by simp [h]), if_pos h9]
theorem fewS_ok {ts : List Int} {l : List Ev} (h : (callsR ts l).2.2 = 0) (h9 : ¬ 9 < (callsR ts l).1.length) : fewS ts l = ((callsR ts l).1, 0) := by unfold fewS; rw [if_neg (by simp [h]), if_neg h9]
/-- what is so of them -/
structure SeaOk (ts : List Int) (cs : List Cl) : Prop where
  types : typesOk ts = true
  calls : CallsOk ts cs
  few : cs.length ≤ 9
  cls : ClsOk ts 200 cs
  tos : ClsTo 200 cs
theorem fewS_facts {ts : List Int} {l : List Ev} (h : (fewS ts l).2 = 0) : SeaOk ts (fewS ts l).1 := by
  by_cases h0 : (callsR ts l).2.2 = 0
  · by_cases h9 : 9 < (callsR ts l).1.length
    · rw [fewS_large h0 h9] at h; cases h
    · obtain ⟨h1, h2, _, h4⟩ := callsR_inv h0
      rw [fewS_ok h0 h9]
      have hc := clsOk_st ts l l.length
      have ht := clsTo_st ts l l.length
      rw [← h4] at hc ht
      exact ⟨h1, CallsOk.of hc, by (try dsimp only); omega, ⟨fun q hq => (hc.each q hq).mono (by omega), hc.rising⟩, ⟨fun q hq => by rcases ht.to q hq with h1 | h1; exact .inl h1; exact .inr ⟨h1.1, Int.lt_of_lt_of_le h1.2 (by omega)⟩, ht.one⟩⟩
  · rw [fewS_err h0] at h; exact absurd h h0
section
variable (A0 B0 : Option Addr) (c0 d0 : Nat) (ts : List Int) (l : List Ev) (w : World) (hts : ts.length ≤ 9223372036854775807) (hl : l.length ≤ 9223372036854775807) (hT : RdInt w A0 ts) (hA : RdEv w B0 l)
include hts hl hT hA
set_option maxRecDepth 100000 in
theorem searchCalls_any : Calls Try.prog 72 #[.slice A0 ts.length c0, .slice B0 l.length d0] w fun e w' => ∃ A c, e = .returned (.tuple #[.slice A (fewS ts l).1.length c, .int .i64 (fewS ts l).2]) ∧ Own Cl.enc 7 107 w' w.heap.size (.slice A (fewS ts l).1.length c) (fewS ts l).1 ∧ Below w.heap.size w w' := by
  have h1 := fun w h1 h2 => callsCode_any A0 B0 c0 d0 ts l w hts hl h1 h2
  have he := fewS_err (ts := ts) (l := l)
  have hg := fewS_large (ts := ts) (l := l)
  have ho := fewS_ok (ts := ts) (l := l)
  generalize fewS ts l = F at *
  generalize callsR ts l = R at *
  obtain ⟨cs, at_, er⟩ := R
  dsimp only at h1 he hg ho
  refine calls_T (S := []) [] Try.func72 rfl Try.ntmps72 (by simp) (Mem.nil _) ?_
  repeat' (first | (refine GO ?_) | (refine GOE ?_; (first | (rintro _ _ ⟨rfl, rfl⟩) | (rintro _ _ ⟨g, rfl, rfl⟩) | (rintro _ _ ⟨A', c', rfl, rfl⟩))) | ((refine GO2 ?_ ?_) <;> intro h <;> (try (repeat (first | with_reducible (replace h := of_decide_eq_true h) | with_reducible (replace h := of_decide_eq_false h) | with_reducible (replace h := bnt h) | with_reducible (replace h := bnf h) | with_reducible (replace h := Int.not_lt.mp h) | with_reducible (replace h := Int.not_le.mp h) | with_reducible (replace h := band_dec h) | with_reducible (replace h := band_decF h) | with_reducible (replace h := bor_dec h) | with_reducible (replace h := bor_decF h)))) <;> (try (exfalso; first | contradiction | omega))) | ((with_reducible (first | apply TD_e2z | apply TD_e3z | apply TL_e | apply TD_e2 | apply TD_e3)); ((with_reducible apply ES_callOwn (f := 39)); exact rfl; (intro w hw; exact h1 w (hw.rd rfl hT) (hw.rd rfl hA)); exact rfl); (first | exact rfl | exact ⟨rfl, rfl, rfl⟩); (rintro _ _ ⟨A1, c1, rfl, rfl⟩); (try refine ⟨SUB, ?_⟩)) | fail)
  · (refine At_ret Try.results72 rfl (fun w' hw => ?_))
    rw [he (by assumption)]
    exact ⟨none, 0, rfl, Own.nil _ _, hw.below0 rfl⟩
  · (refine At_ret Try.results72 rfl (fun w' hw => ?_))
    rw [hg (by assumption) (by omega)]
    exact ⟨none, 0, rfl, Own.nil _ _, hw.below0 rfl⟩
  · (refine At_ret Try.results72 rfl (fun w' hw => ?_))
    rw [ho (by assumption) (by omega)]
    exact ⟨A1, c1, rfl, hw.ownOut rfl (by first | ((repeat (first | with_reducible exact List.mem_cons_self | with_reducible apply List.mem_cons_of_mem)); done) | (repeat (first | exact List.Mem.head _ | apply List.Mem.tail))), hw.below0 rfl⟩
end
theorem relOk_ahead {ts : List Int} {cs : List Cl} (h : SeaOk ts cs) : RelOk cs (relAhead cs) := by
  intro i j hb
  unfold relAhead at hb
  rw [relN_bit, Bool.and_eq_true, Bool.and_eq_true, decide_eq_true_eq, decide_eq_true_eq] at hb
  obtain ⟨hi, hj, ha⟩ := hb
  unfold aheadP at ha
  rw [clD hi, clD hj, Bool.and_eq_true, Bool.not_eq_true', decide_eq_false_iff_not, decide_eq_true_eq] at ha
  refine ⟨hi, hj, fun e => ?_, by rw [callAt_eq hi]; exact ha.1⟩
  subst e
  rcases h.tos.to i hi with h1 | h1
  · exact ha.1 h1
  · omega
theorem relAhead_16 (cs : List Cl) (h : cs.length ≤ 16) (i : Nat) : relAhead cs i < 65536 := relN_lt _ h i
section
variable (A0 B0 D : Option Addr) (c0 d0 dc : Nat) (ts : List Int) (l : List Ev) (v : List Stp) (w : World) (hts : ts.length ≤ 9223372036854775807) (hl : l.length ≤ 9223372036854775807) (hv : v.length ≤ 9223372036854775807) (hT : RdInt w A0 ts) (hA : RdEv w B0 l) (hD : RdStp w D v)
include hts hl hT hA
def findS (ts : List Int) (l : List Ev) (F : List Cl → Nat → Nat) : Option (List Stp) := if (fewS ts l).2 = 0 then foundS ts (fewS ts l).1 (F (fewS ts l).1) else none
set_option maxRecDepth 100000 in
set_option maxHeartbeats 1000000 in
theorem searchFind_any : Calls Try.prog 44 #[.slice A0 ts.length c0, .slice B0 l.length d0] w fun e w' => ∃ A c, e = .returned (.tuple #[.slice A ((findS ts l relAhead).getD []).length c, .bool (findS ts l relAhead).isSome, .int .i64 (fewS ts l).2]) ∧
    Own Stp.enc 2 125 w' w.heap.size (.slice A ((findS ts l relAhead).getD []).length c) ((findS ts l relAhead).getD []) ∧ Below w.heap.size w w' := by
  have h1 := fun w h1 h2 => searchCalls_any A0 B0 c0 d0 ts l w hts hl h1 h2
  have hf := fewS_facts (ts := ts) (l := l)
  unfold findS
  generalize fewS ts l = F at *
  obtain ⟨cs, er⟩ := F
  dsimp only at h1 hf ⊢
  refine calls_T (S := []) [] Try.func44 rfl Try.ntmps44 (by simp) (Mem.nil _) ?_
  by_cases h0 : er = 0
  · subst h0
    have hs := hf rfl
    have h9 := hs.few
    have hah := fun A c w' h => ahead_ok A c cs w' h (by omega)
    have hsm := fun A c w' h1 h2 => smallest_any A0 A c0 c ts cs cs.length (relAhead cs) w' hs.types hs.calls h9 (fun i _ => relAhead_16 cs (by omega) i) h1 h2
    rw [if_pos rfl]
    generalize foundS ts cs (relAhead cs) = o at *
    repeat' (first | (refine GO ?_) | (refine GOE ?_; (first | (rintro _ _ ⟨rfl, rfl⟩) | (rintro _ _ ⟨g, rfl, rfl⟩) | (rintro _ _ ⟨A', c', rfl, rfl⟩))) | ((refine GO2 ?_ ?_) <;> intro h <;> (try (repeat (first | with_reducible (replace h := of_decide_eq_true h) | with_reducible (replace h := of_decide_eq_false h) | with_reducible (replace h := bnt h) | with_reducible (replace h := bnf h) | with_reducible (replace h := Int.not_lt.mp h) | with_reducible (replace h := Int.not_le.mp h) | with_reducible (replace h := band_dec h) | with_reducible (replace h := band_decF h) | with_reducible (replace h := bor_dec h) | with_reducible (replace h := bor_decF h)))) <;> (try (exfalso; first | contradiction | omega))) | ((with_reducible (first | apply TD_e2z | apply TD_e3z | apply TL_e | apply TD_e2 | apply TD_e3)); ((with_reducible apply ES_callOwn (f := 72)); exact rfl; (intro w hw; exact h1 w (hw.rd rfl hT) (hw.rd rfl hA)); exact rfl); (first | exact rfl | exact ⟨rfl, rfl, rfl⟩); (rintro _ _ ⟨A1, c1, rfl, rfl⟩); (try refine ⟨SUB, ?_⟩)) | ((with_reducible (first | apply TD_e2z | apply TD_e3z | apply TL_e | apply TD_e2 | apply TD_e3)); ((with_reducible apply ES_callV (f := 73)); exact rfl; (intro w hw; exact hah _ _ w (hw.ownRd (by first | ((repeat (first | with_reducible exact List.mem_cons_self | with_reducible apply List.mem_cons_of_mem)); done) | (repeat (first | exact List.Mem.head _ | apply List.Mem.tail))) (fun _ => rfl))); exact rfl); (first | exact rfl | exact ⟨rfl, rfl, rfl⟩); (rintro _ _ ⟨rfl, rfl⟩); (try refine ⟨SUB, ?_⟩)) | ((with_reducible (first | apply TD_e2z | apply TD_e3z | apply TL_e | apply TD_e2 | apply TD_e3)); ((with_reducible apply ES_callOwn (f := 74)); exact rfl; (intro w hw; exact hsm _ _ w (hw.rd rfl hT) (hw.ownRd (by first | ((repeat (first | with_reducible exact List.mem_cons_self | with_reducible apply List.mem_cons_of_mem)); done) | (repeat (first | exact List.Mem.head _ | apply List.Mem.tail))) (fun _ => rfl))); exact rfl); (first | exact rfl | exact ⟨rfl, rfl, rfl⟩); (rintro _ _ ⟨A5, c5, rfl, rfl⟩); (try refine ⟨SUB, ?_⟩)) | fail)
    (refine At_ret Try.results44 rfl (fun w' hw => ?_))
    exact ⟨A5, c5, rfl, hw.ownOut rfl (by first | ((repeat (first | with_reducible exact List.mem_cons_self | with_reducible apply List.mem_cons_of_mem)); done) | (repeat (first | exact List.Mem.head _ | apply List.Mem.tail))), hw.below0 rfl⟩
  · rw [if_neg h0]
    repeat' (first | (refine GO ?_) | (refine GOE ?_; (first | (rintro _ _ ⟨rfl, rfl⟩) | (rintro _ _ ⟨g, rfl, rfl⟩) | (rintro _ _ ⟨A', c', rfl, rfl⟩))) | ((refine GO2 ?_ ?_) <;> intro h <;> (try (repeat (first | with_reducible (replace h := of_decide_eq_true h) | with_reducible (replace h := of_decide_eq_false h) | with_reducible (replace h := bnt h) | with_reducible (replace h := bnf h) | with_reducible (replace h := Int.not_lt.mp h) | with_reducible (replace h := Int.not_le.mp h) | with_reducible (replace h := band_dec h) | with_reducible (replace h := band_decF h) | with_reducible (replace h := bor_dec h) | with_reducible (replace h := bor_decF h)))) <;> (try (exfalso; first | contradiction | omega))) | ((with_reducible (first | apply TD_e2z | apply TD_e3z | apply TL_e | apply TD_e2 | apply TD_e3)); ((with_reducible apply ES_callOwn (f := 72)); exact rfl; (intro w hw; exact h1 w (hw.rd rfl hT) (hw.rd rfl hA)); exact rfl); (first | exact rfl | exact ⟨rfl, rfl, rfl⟩); (rintro _ _ ⟨A1, c1, rfl, rfl⟩); (try refine ⟨SUB, ?_⟩)) | fail)
    (refine At_ret Try.results44 rfl (fun w' hw => ?_))
    exact ⟨none, 0, rfl, Own.nil _ _, hw.below0 rfl⟩
end
end Go.Proofs.Ytaonijdhmgcbjaa

namespace Go.Proofs.Ytaonijdhmgcbjaa

/-- calls that are alike but for their places -/
structure SameC (cs ds : List Cl) : Prop where
  len : cs.length = ds.length
  one : ∀ i, (callAt cs i).thing = (callAt ds i).thing ∧ (callAt cs i).kind = (callAt ds i).kind ∧ (callAt cs i).arg = (callAt ds i).arg ∧ (callAt cs i).res = (callAt ds i).res ∧ ((callAt cs i).to = -1 ↔ (callAt ds i).to = -1)
theorem srch_sameC {ts : List Int} {cs ds : List Cl} {f : Nat → Nat} (h : SameC cs ds) (n : Nat) (w : List Stp) : srchR ts cs f n w = srchR ts ds f n w := by
  have e1 : ∀ sts i, stepSt ts cs sts i = stepSt ts ds sts i := fun sts i => by
    obtain ⟨a, b, c, _, _⟩ := h.one i
    unfold stepSt; rw [a, b, c]
  have e2 : ∀ w, statesW ts cs w = statesW ts ds w := fun w => by
    unfold statesW
    congr 1
    funext sts s
    rw [e1, (h.one s.call.toNat).1]
  have e3 : nextW ts cs = nextW ts ds := by
    funext w i
    unfold nextW
    rw [e1, e2]
  have e4 : canR ts cs f = canR ts ds f := by
    funext w i
    unfold canR fitsSt
    rw [e1, e2, h.len, (h.one i).2.2.2.1]
    have : decide ((callAt cs i).to = -1) = decide ((callAt ds i).to = -1) := by
      rw [decide_eq_decide]; exact (h.one i).2.2.2.2
    rw [this]
  have e5 : compW cs = compW ds := by
    funext w
    unfold compW compM
    rw [h.len]
    congr 1
    funext i
    have : decide ((callAt cs i).to = -1) = decide ((callAt ds i).to = -1) := by
      rw [decide_eq_decide]; exact (h.one i).2.2.2.2
    rw [this]
  unfold srchR
  rw [e3, e4, e5, h.len]
theorem sub_same (p : Nat → Bool) (own : List Cl) : SameC (own.map (subC p)) own := by
  refine ⟨by simp, fun i => ?_⟩
  unfold callAt
  by_cases hi : i < own.length
  · have g1 : (own.map (subC p)).getD i default = subC p own[i] := by simp [hi]
    have g2 : own.getD i default = own[i] := by simp [hi]
    rw [g1, g2]
    exact ⟨rfl, rfl, rfl, rfl, subTo_open⟩
  · have g1 : (own.map (subC p)).getD i default = default := by simp [List.getD_eq_getElem?_getD, List.getElem?_eq_none (by simpa using hi : (own.map (subC p)).length ≤ i)]
    have g2 : own.getD i default = default := by simp [List.getD_eq_getElem?_getD, List.getElem?_eq_none (by omega : own.length ≤ i)]
    rw [g1, g2]
    exact ⟨rfl, rfl, rfl, rfl, Iff.rfl⟩
/-- who is ahead, in the part as in the whole -/
theorem sub_ahead {p : Nat → Bool} {own : List Cl} (h : ∀ c ∈ own, 0 ≤ c.from_ ∧ p c.from_.toNat = true ∧ (c.to ≠ -1 → 0 ≤ c.to ∧ p c.to.toNat = true)) : relAhead (own.map (subC p)) = relAhead own := by
  unfold relAhead
  rw [List.length_map]
  have key : ∀ i j, i < own.length → j < own.length → aheadP (own.map (subC p)) i j = aheadP own i j := by
    intro i j hi hj
    unfold aheadP
    have g1 : (own.map (subC p)).getD i default = subC p own[i] := by simp [hi]
    have g2 : own.getD i default = own[i] := by simp [hi]
    have g3 : (own.map (subC p)).getD j default = subC p own[j] := by simp [hj]
    have g4 : own.getD j default = own[j] := by simp [hj]
    rw [g1, g2, g3, g4]
    by_cases ht : own[i].to = -1
    · have : (subC p own[i]).to = -1 := subTo_open.2 ht
      simp [ht, this]
    · have ht' : ¬ (subC p own[i]).to = -1 := fun e => ht (subTo_open.1 e)
      obtain ⟨h1, h2, _⟩ := h own[j] (List.getElem_mem _)
      obtain ⟨_, _, h3⟩ := h own[i] (List.getElem_mem _)
      obtain ⟨h4, h5⟩ := h3 ht
      have e : (subC p own[i]).to < (subC p own[j]).from_ ↔ own[i].to < own[j].from_ := by
        show subTo p own[i].to < (rankP p own[j].from_.toNat : Int) ↔ _
        unfold subTo
        rw [if_neg ht, Int.ofNat_lt, rankP_lt h5]
        omega
      simp only [ht, ht', decide_false, Bool.not_false, Bool.true_and]
      rw [decide_eq_decide]
      exact e
  exact relN_congr key
end Go.Proofs.Ytaonijdhmgcbjaa

namespace Go.Proofs.Ytaonijdhmgcbjaa
open Go.RowKit

/-- how often a number is called, up to a place -/
def cN (cs : List Cl) (k : Nat) (v : Int) : Nat := ((cs.take k).filter (bagA v)).length
theorem cN_succ {cs : List Cl} {k : Nat} (hk : k < cs.length) (v : Int) : cN cs (k + 1) v = if cs[k].arg = v then cN cs k v + 1 else cN cs k v := by
  unfold cN
  rw [List.take_succ_eq_append_getElem hk, List.filter_append, List.filter_cons, List.filter_nil]
  unfold bagA
  split
  · rename_i h; rw [if_pos (of_decide_eq_true h), List.length_append]; rfl
  · rename_i h; rw [if_neg (by simpa using h)]; simp
theorem cN_le (cs : List Cl) (k : Nat) (v : Int) : cN cs k v ≤ k := by
  unfold cN
  exact Nat.le_trans (List.length_filter_le _ _) (by rw [List.length_take]; omega)
theorem cN_all (cs : List Cl) (v : Int) : cN cs cs.length v = (cs.filter (bagA v)).length := by unfold cN; rw [List.take_length]
/-- the map that counts -/
def cntM (cs : List Cl) : Nat → List (Int × Int)
  | 0 => []
  | k + 1 => putM (cntM cs k) (cs.getD k default).arg ((lookM (cntM cs k) (cs.getD k default).arg).getD 0 + 1)
theorem cntM_succ {cs : List Cl} {k : Nat} (hk : k < cs.length) : cntM cs (k + 1) = putM (cntM cs k) cs[k].arg ((lookM (cntM cs k) cs[k].arg).getD 0 + 1) := by rw [cntM, cd hk]
theorem cntM_look {cs : List Cl} (v : Int) : ∀ k, k ≤ cs.length → (lookM (cntM cs k) v).getD 0 = (cN cs k v : Int)
  | 0, _ => by simp [cntM, lookM, cN]
  | k + 1, hk => by
    have hk' : k < cs.length := hk
    rw [cntM_succ hk', lookM_put, cN_succ hk', cntM_look cs[k].arg k (by omega)]
    by_cases e : cs[k].arg = v
    · rw [if_pos e.symm, if_pos e, e]; simp
    · rw [if_neg (fun h => e h.symm), if_neg e, cntM_look v k (by omega)]
theorem putM_keys (k v : Int) : ∀ D : List (Int × Int), ∀ x, x ∈ (putM D k v).map (·.1) ↔ x = k ∨ x ∈ D.map (·.1)
  | [] => by simp [putM]
  | p :: D => by
    intro x
    unfold putM
    split
    · rename_i h; subst h; simp
    · have := putM_keys k v D x
      rw [List.map_cons, List.mem_cons, this, List.map_cons, List.mem_cons]
      constructor
      · rintro (h | h | h)
        · exact .inr (.inl h)
        · exact .inl h
        · exact .inr (.inr h)
      · rintro (h | h | h)
        · exact .inr (.inl h)
        · exact .inl h
        · exact .inr (.inr h)
theorem putM_nodup (k v : Int) : ∀ D : List (Int × Int), (D.map (·.1)).Nodup → ((putM D k v).map (·.1)).Nodup
  | [], _ => by simp [putM]
  | p :: D, h => by
    unfold putM
    split
    · rename_i e; subst e; exact h
    · rename_i e
      rw [List.map_cons, List.nodup_cons] at h ⊢
      refine ⟨fun hm => ?_, putM_nodup k v D h.2⟩
      rcases (putM_keys k v D _).1 hm with h1 | h1
      · exact e h1.symm
      · exact h.1 h1
theorem cntM_nodup (cs : List Cl) : ∀ k, ((cntM cs k).map (·.1)).Nodup
  | 0 => by simp [cntM]
  | k + 1 => by rw [cntM]; exact putM_nodup _ _ _ (cntM_nodup cs k)
theorem cntM_mem {cs : List Cl} (x : Int) : ∀ k, k ≤ cs.length → (x ∈ (cntM cs k).map (·.1) ↔ 0 < cN cs k x)
  | 0, _ => by simp [cntM, cN]
  | k + 1, hk => by
    have hk' : k < cs.length := hk
    rw [cntM_succ hk', putM_keys, cntM_mem x k (by omega), cN_succ hk']
    by_cases e : cs[k].arg = x
    · rw [if_pos e]; constructor
      · intro _; omega
      · intro _; exact .inl e.symm
    · rw [if_neg e]; constructor
      · rintro (h | h)
        · exact absurd h.symm e
        · exact h
      · exact .inr
theorem cntM_len (cs : List Cl) (k : Nat) : (cntM cs k).length ≤ k := by
  induction k with
  | zero => exact Nat.le_refl _
  | succ k ih =>
    have : ∀ (D : List (Int × Int)) (a b : Int), (putM D a b).length ≤ D.length + 1 := fun D a b => by
      induction D with
      | nil => simp [putM]
      | cons p D ih2 =>
        unfold putM
        split
        · simp
        · simpa using ih2
    rw [cntM]
    exact Nat.le_trans (this _ _ _) (by omega)
/-- none is called too often -/
theorem cN_few {cs : List Cl} {k : Nat} (hk : k ≤ cs.length) (h : ∀ i (hi : i < cs.length), i < k → cN cs (i + 1) cs[i].arg ≤ 9) (v : Int) : cN cs k v ≤ 9 := by
  induction k with
  | zero => simp [cN]
  | succ k ih =>
    have hk' : k < cs.length := hk
    have h1 := ih (by omega) fun i hi hik => h i hi (by omega)
    have h2 := h k hk' (by omega)
    by_cases e : cs[k].arg = v
    · rw [← e]; exact h2
    · rw [cN_succ hk', if_neg e]; exact h1
theorem cN_mono (cs : List Cl) (v : Int) {i j : Nat} (h : i ≤ j) : cN cs i v ≤ cN cs j v := by
  unfold cN
  have : (cs.take i).Sublist (cs.take j) := by
    rw [show i = min i j by omega, ← List.take_take]
    exact List.take_sublist _ _
  exact (this.filter _).length_le
def bigB (cs : List Cl) : Bool := cs.any fun c => decide (9 < (cs.filter (bagA c.arg)).length)
theorem bigB_yes {cs : List Cl} {k : Nat} (hk : k < cs.length) (h : 9 < cN cs (k + 1) cs[k].arg) : bigB cs = true := by
  unfold bigB
  rw [List.any_eq_true]
  refine ⟨cs[k], List.getElem_mem _, ?_⟩
  rw [decide_eq_true_eq, ← cN_all]
  exact Nat.lt_of_lt_of_le h (cN_mono cs _ hk)
theorem bigB_no {cs : List Cl} (h : ∀ i (hi : i < cs.length), cN cs (i + 1) cs[i].arg ≤ 9) : bigB cs = false := by
  unfold bigB
  rw [List.any_eq_false]
  intro c _ hc
  rw [decide_eq_true_eq, ← cN_all] at hc
  have := cN_few (Nat.le_refl _) (fun i hi _ => h i hi) c.arg
  omega
/-- a number whose calls cannot be -/
def nokB (cs : List Cl) (n : Int) : Bool := (foundS [4] (cs.filter (bagA n)) (relAhead (cs.filter (bagA n)))).isNone
def bcE (l : List Ev) : Int := if (callsR [4] l).2.2 ≠ 0 then (callsR [4] l).2.2 else if bigB (callsR [4] l).1 = true then 2 else 0
def inbB (cs : List Cl) (v : Int) : Bool := decide (0 < (cs.filter (bagA v)).length) && nokB cs v
def bcL (cs : List Cl) (n : Nat) : List Int := ((List.range n).filter fun v : Nat => decide (1 ≤ v) && inbB cs (v : Int)).map fun v : Nat => (v : Int)
def bcR (l : List Ev) : List Int := if bcE l = 0 then bcL (callsR [4] l).1 1001 else []
theorem bcL_succ (cs : List Cl) (n : Nat) : bcL cs (n + 1) = if (decide (1 ≤ n) && inbB cs (n : Int)) = true then bcL cs n ++ [(n : Int)] else bcL cs n := by
  unfold bcL
  rw [List.range_succ, List.filter_append, List.map_append, List.filter_cons, List.filter_nil]
  split <;> simp
theorem bcL_len (cs : List Cl) (n : Nat) : (bcL cs n).length ≤ n := by
  unfold bcL
  rw [List.length_map]
  exact Nat.le_trans (List.length_filter_le _ _) (by simp)
/-- what the code lists: those of the sorted numbers that cannot be -/
theorem bcL_keys {cs : List Cl} (harg : ∀ c ∈ cs, 1 ≤ c.arg ∧ c.arg ≤ 1000) {ks : List Int} (hp : ks.Perm ((cntM cs cs.length).map (·.1))) (hs : ks.Pairwise (· ≤ ·)) : ks.filter (nokB cs) = bcL cs 1001 := by
  have hnd : ks.Nodup := hp.nodup_iff.2 (cntM_nodup cs _)
  refine List.Perm.eq_of_pairwise (le := fun a b : Int => a ≤ b) (fun a b _ _ h1 h2 => Int.le_antisymm h1 h2) (hs.filter _) ?_ ?_
  · unfold bcL
    rw [List.pairwise_map]
    exact (List.Pairwise.filter _ List.pairwise_lt_range).imp fun {a b} h => by omega
  · refine (List.perm_ext_iff_of_nodup (hnd.filter _) ?_).2 fun r => ?_
    · unfold bcL
      rw [List.Nodup, List.pairwise_map]
      exact (List.Pairwise.filter _ List.pairwise_lt_range).imp fun {a b} h => by omega
    · have hm : r ∈ ks ↔ 0 < (cs.filter (bagA r)).length := by rw [hp.mem_iff, cntM_mem r _ (Nat.le_refl _), cN_all]
      rw [List.mem_filter, hm]
      unfold bcL
      rw [List.mem_map]
      constructor
      · rintro ⟨h1, h2⟩
        obtain ⟨c, hc⟩ := List.exists_mem_of_length_pos h1
        rw [List.mem_filter] at hc
        have h3 : c.arg = r := by have := hc.2; unfold bagA at this; exact of_decide_eq_true this
        have h4 := harg c hc.1
        refine ⟨r.toNat, ?_, by omega⟩
        have h5 : ((r.toNat : Nat) : Int) = r := by omega
        rw [List.mem_filter, List.mem_range, Bool.and_eq_true]
        unfold inbB
        rw [h5, decide_eq_true h1, h2]
        exact ⟨by omega, decide_eq_true (by omega), rfl⟩
      · rintro ⟨v, hv, rfl⟩
        rw [List.mem_filter, List.mem_range, Bool.and_eq_true] at hv
        have h2 := hv.2.2
        unfold inbB at h2
        rw [Bool.and_eq_true, decide_eq_true_eq] at h2
        exact h2
section
variable {l : List Ev} {n : Int}
theorem bag_part (h0 : (callsR [4] l).2.2 = 0) : callsR [4] (keepL l (bagP l n) l.length) = (((callsR [4] l).1.filter (bagA n)).map (subC (bagP l n)), 0, 0) := by
  obtain ⟨h1, h2, h3, h4⟩ := callsR_inv h0
  rw [sub_calls h1 h2 (bag_kept h3) h3, h4]; rfl
theorem bag_same (h0 : (callsR [4] l).2.2 = 0) (h9 : ((callsR [4] l).1.filter (bagA n)).length ≤ 9) : (fewS [4] (keepL l (bagP l n) l.length)).2 = 0 ∧ findS [4] (keepL l (bagP l n) l.length) relAhead = foundS [4] ((callsR [4] l).1.filter (bagA n)) (relAhead ((callsR [4] l).1.filter (bagA n))) ∧
    SeaOk [4] ((fewS [4] (keepL l (bagP l n) l.length)).1) ∧ (fewS [4] (keepL l (bagP l n) l.length)).1 = ((callsR [4] l).1.filter (bagA n)).map (subC (bagP l n)) := by
  have hp := bag_part (n := n) h0
  obtain ⟨h1, h2, h3, h4⟩ := callsR_inv h0
  have e0 : (callsR [4] (keepL l (bagP l n) l.length)).2.2 = 0 := by rw [hp]
  have e9 : ¬ 9 < (callsR [4] (keepL l (bagP l n) l.length)).1.length := by rw [hp]; simp only [List.length_map]; omega
  have hf := fewS_ok e0 e9
  have hs := fewS_facts (ts := [4]) (l := keepL l (bagP l n) l.length) (by rw [hf])
  have hc : (fewS [4] (keepL l (bagP l n) l.length)).1 = ((callsR [4] l).1.filter (bagA n)).map (subC (bagP l n)) := by rw [hf, hp]
  refine ⟨by rw [hf], ?_, hs, hc⟩
  unfold findS
  rw [if_pos (by rw [hf]), hc]
  rw [hc] at hs
  have hra : relAhead (((callsR [4] l).1.filter (bagA n)).map (subC (bagP l n))) = relAhead ((callsR [4] l).1.filter (bagA n)) := sub_ahead fun c hm => by
    rw [List.mem_filter, h4] at hm
    have h5 := sub_places (bag_kept (n := n) h3) h3 l.length (Nat.le_refl _) c hm.1 hm.2
    obtain ⟨q, hq, rfl⟩ := List.mem_iff_getElem.1 hm.1
    have h6 := (clsOk_st [4] l l.length).each q hq
    exact ⟨h6.place.1, h5.1, h5.2⟩
  rw [hra]
  have hR : RelOk (((callsR [4] l).1.filter (bagA n)).map (subC (bagP l n))) (relAhead ((callsR [4] l).1.filter (bagA n))) := by rw [← hra]; exact relOk_ahead hs
  have hR2 : RelOk ((callsR [4] l).1.filter (bagA n)) (relAhead ((callsR [4] l).1.filter (bagA n))) := fun i j hb => by
    obtain ⟨a1, a2, a3, a4⟩ := hR i j hb
    rw [List.length_map] at a1 a2
    exact ⟨a1, a2, a3, fun e => a4 (((sub_same (bagP l n) ((callsR [4] l).1.filter (bagA n))).one i).2.2.2.2.2 e)⟩
  show srchC _ _ _ _ _ = srchC _ _ _ _ _
  rw [srch_CR hR _ closed_nil, srch_CR hR2 _ closed_nil, List.length_map]
  exact srch_sameC (sub_same _ _) _ _
/-- what the document's search leans on -/
theorem bag_own (h0 : (callsR [4] l).2.2 = 0) (h9 : ((callsR [4] l).1.filter (bagA n)).length ≤ 9) : typesOk [4] = true ∧ CallsOk [4] ((callsR [4] l).1.filter (bagA n)) ∧ RelOk ((callsR [4] l).1.filter (bagA n)) (relAhead ((callsR [4] l).1.filter (bagA n))) := by
  obtain ⟨_, _, hs, hc⟩ := bag_same h0 h9
  obtain ⟨h1, h2, h3, h4⟩ := callsR_inv h0
  rw [hc] at hs
  have hra : relAhead (((callsR [4] l).1.filter (bagA n)).map (subC (bagP l n))) = relAhead ((callsR [4] l).1.filter (bagA n)) := sub_ahead fun c hm => by
    rw [List.mem_filter, h4] at hm
    have h5 := sub_places (bag_kept (n := n) h3) h3 l.length (Nat.le_refl _) c hm.1 hm.2
    obtain ⟨q, hq, rfl⟩ := List.mem_iff_getElem.1 hm.1
    have h6 := (clsOk_st [4] l l.length).each q hq
    exact ⟨h6.place.1, h5.1, h5.2⟩
  refine ⟨h1, fun i hi => ?_, fun i j hb => ?_⟩
  · have h5 := hs.calls i (by rw [List.length_map]; exact hi)
    obtain ⟨a, b, c, _, _⟩ := (sub_same (bagP l n) ((callsR [4] l).1.filter (bagA n))).one i
    rw [a, b, c] at h5
    exact h5
  · obtain ⟨a1, a2, a3, a4⟩ := relOk_ahead hs i j (by rw [hra]; exact hb)
    rw [List.length_map] at a1 a2
    exact ⟨a1, a2, a3, fun e => a4 (((sub_same (bagP l n) ((callsR [4] l).1.filter (bagA n))).one i).2.2.2.2.2 e)⟩
end
end Go.Proofs.Ytaonijdhmgcbjaa

namespace Go.Proofs.Ytaonijdhmgcbjaa
open Go.RowKit Go.Maps Go.Sort Go.Shelf

def rhoKeys : Ren := ⟨fun n => if n = 7 then 43 else if n = 10 then 71 else n, fun n => if n = 23 then 112 else if n = 26 then 3 else if n = 3 then 3 else if n = 28 then 115 else if n = 0 then 0 else if n = 27 then 114 else if n = 33 then 154 else if n = 4 then 4 else n, fun n => n⟩
set_option maxRecDepth 100000 in
theorem layKeys : SlLaysZI.n7 Try.prog rhoKeys where
  mixed := by kernel_rfl
  f7 := ⟨ "maps.Keys[map[int]int,int,int]", rfl, by kernel_rfl⟩
  f10 := ⟨ "maps.Keys[map[int]int,int,int]$1", rfl, by kernel_rfl⟩
  t0 := Try.underlying0
  a0 := Try.isAgg0
  z0 := Try.sizeOf0
  v0 := Try.zeroValue0
  t4 := Try.underlying4
  a4 := Try.isAgg4
  z4 := Try.sizeOf4
  v4 := Try.zeroValue4
  t23 := Try.underlying112
  a23 := Try.isAgg112
  z23 := Try.sizeOf112
  v23 := Try.zeroValue112
  t26 := Try.underlying3
  a26 := Try.isAgg3
  z26 := Try.sizeOf3
  v26 := Try.zeroValue3
  t27 := Try.underlying114
  a27 := Try.isAgg114
  z27 := Try.sizeOf114
  v27 := Try.zeroValue114
  t28 := Try.underlying115
  a28 := Try.isAgg115
  z28 := Try.sizeOf115
  v28 := Try.zeroValue115
  t33 := Try.underlying154
  a33 := Try.isAgg154
  z33 := Try.sizeOf154
  v33 := Try.zeroValue154
def rhoSorted : Ren := ⟨fun n => if n = 6 then 42 else if n = 8 then 69 else if n = 9 then 70 else if n = 11 then 88 else if n = 13 then 83 else if n = 12 then 89 else if n = 23 then 102 else if n = 24 then 103 else if n = 14 then 105 else if n = 15 then 106 else if n = 16 then 107 else if n = 17 then 108 else if n = 18 then 109 else if n = 19 then 110 else if n = 20 then 111 else if n = 21 then 112 else if n = 22 then 113 else if n = 25 then 123 else if n = 26 then 119 else if n = 27 then 120 else if n = 28 then 124 else if n = 29 then 125 else if n = 30 then 84 else if n = 31 then 128 else n, fun n => if n = 26 then 3 else if n = 28 then 115 else if n = 24 then 58 else if n = 0 then 0 else if n = 3 then 3 else if n = 37 then 170 else if n = 48 then 192 else if n = 50 then 194 else if n = 4 then 4 else if n = 40 then 186 else if n = 39 then 185 else if n = 45 then 108 else if n = 5 then 5 else if n = 9 then 9 else if n = 51 then 205 else if n = 55 then 209 else if n = 57 then 225 else if n = 58 then 226 else if n = 33 then 154 else n, fun n => n⟩
set_option maxRecDepth 100000 in
theorem laySorted : SlLaysZI.n6 Try.prog rhoSorted where
  mixed := by kernel_rfl
  f6 := ⟨ "slices.Sorted[int]", rfl, by kernel_rfl⟩
  f8 := ⟨ "slices.Collect[int]", rfl, by kernel_rfl⟩
  f11 := ⟨ "slices.AppendSeq[[]int,int]", rfl, by kernel_rfl⟩
  t0 := Try.underlying0
  a0 := Try.isAgg0
  z0 := Try.sizeOf0
  v0 := Try.zeroValue0
  t24 := Try.underlying58
  a24 := Try.isAgg58
  z24 := Try.sizeOf58
  v24 := Try.zeroValue58
  t26 := Try.underlying3
  a26 := Try.isAgg3
  z26 := Try.sizeOf3
  v26 := Try.zeroValue3
  t28 := Try.underlying115
  a28 := Try.isAgg115
  z28 := Try.sizeOf115
  v28 := Try.zeroValue115
  i26 := by kernel_rfl
def rhoSortI : Ren := ⟨fun n => if n = 5 then 70 else if n = 8 then 83 else if n = 7 then 89 else if n = 19 then 102 else if n = 20 then 103 else if n = 10 then 105 else if n = 11 then 106 else if n = 12 then 107 else if n = 13 then 108 else if n = 14 then 109 else if n = 15 then 110 else if n = 16 then 111 else if n = 17 then 112 else if n = 18 then 113 else if n = 30 then 123 else if n = 31 then 119 else if n = 32 then 120 else if n = 33 then 124 else if n = 34 then 125 else if n = 35 then 84 else if n = 40 then 128 else n, fun n => if n = 23 then 58 else if n = 25 then 3 else if n = 3 then 3 else if n = 32 then 170 else if n = 22 then 58 else if n = 0 then 0 else if n = 44 then 192 else if n = 46 then 194 else if n = 4 then 4 else if n = 36 then 186 else if n = 35 then 185 else if n = 41 then 108 else if n = 5 then 5 else if n = 9 then 9 else if n = 53 then 205 else if n = 57 then 209 else if n = 63 then 225 else if n = 64 then 226 else n, fun n => n⟩
set_option maxRecDepth 100000 in
theorem laySortI : SlLaysM.n5 Try.prog rhoSortI where
  mixed := by kernel_rfl
  f5 := ⟨ "slices.Sort[[]int,int]", rfl, by kernel_rfl⟩
  f7 := ⟨ "slices.pdqsortOrdered[int]", rfl, by kernel_rfl⟩
  f8 := by kernel_rfl
  f10 := ⟨ "slices.insertionSortOrdered[int]", rfl, by kernel_rfl⟩
  f11 := ⟨ "slices.heapSortOrdered[int]", rfl, by kernel_rfl⟩
  f12 := ⟨ "slices.breakPatternsOrdered[int]", rfl, by kernel_rfl⟩
  f13 := ⟨ "slices.choosePivotOrdered[int]", rfl, by kernel_rfl⟩
  f14 := ⟨ "slices.reverseRangeOrdered[int]", rfl, by kernel_rfl⟩
  f15 := ⟨ "slices.partialInsertionSortOrdered[int]", rfl, by kernel_rfl⟩
  f16 := ⟨ "cmp.Less[int]", rfl, by kernel_rfl⟩
  f17 := ⟨ "slices.partitionEqualOrdered[int]", rfl, by kernel_rfl⟩
  f18 := ⟨ "slices.partitionOrdered[int]", rfl, by kernel_rfl⟩
  f19 := by kernel_rfl
  f20 := by kernel_rfl
  f30 := ⟨ "slices.siftDownOrdered[int]", rfl, by kernel_rfl⟩
  f31 := by kernel_rfl
  f32 := by kernel_rfl
  f33 := ⟨ "slices.medianAdjacentOrdered[int]", rfl, by kernel_rfl⟩
  f34 := ⟨ "slices.medianOrdered[int]", rfl, by kernel_rfl⟩
  f35 := ⟨ "cmp.isNaN[int]", rfl, by kernel_rfl⟩
  f40 := ⟨ "slices.order2Ordered[int]", rfl, by kernel_rfl⟩
  t0 := Try.underlying0
  a0 := Try.isAgg0
  z0 := Try.sizeOf0
  v0 := Try.zeroValue0
  t3 := Try.underlying3
  a3 := Try.isAgg3
  z3 := Try.sizeOf3
  v3 := Try.zeroValue3
  t4 := Try.underlying4
  a4 := Try.isAgg4
  z4 := Try.sizeOf4
  v4 := Try.zeroValue4
  t5 := Try.underlying5
  a5 := Try.isAgg5
  z5 := Try.sizeOf5
  v5 := Try.zeroValue5
  t9 := Try.underlying9
  a9 := Try.isAgg9
  z9 := Try.sizeOf9
  v9 := Try.zeroValue9
  t22 := Try.underlying58
  a22 := Try.isAgg58
  z22 := Try.sizeOf58
  v22 := Try.zeroValue58
  t23 := Try.underlying58
  a23 := Try.isAgg58
  z23 := Try.sizeOf58
  v23 := Try.zeroValue58
  t25 := Try.underlying3
  a25 := Try.isAgg3
  z25 := Try.sizeOf3
  v25 := Try.zeroValue3
  t32 := Try.underlying170
  a32 := Try.isAgg170
  z32 := Try.sizeOf170
  v32 := Try.zeroValue170
  t35 := Try.underlying185
  a35 := Try.isAgg185
  z35 := Try.sizeOf185
  v35 := Try.zeroValue185
  t36 := Try.underlying186
  a36 := Try.isAgg186
  z36 := Try.sizeOf186
  v36 := Try.zeroValue186
  t41 := Try.underlying108
  a41 := Try.isAgg108
  z41 := Try.sizeOf108
  v41 := Try.zeroValue108
  t44 := Try.underlying192
  a44 := Try.isAgg192
  z44 := Try.sizeOf192
  v44 := Try.zeroValue192
  t46 := Try.underlying194
  a46 := Try.isAgg194
  z46 := Try.sizeOf194
  v46 := Try.zeroValue194
  t53 := Try.underlying205
  a53 := Try.isAgg205
  z53 := Try.sizeOf205
  v53 := Try.zeroValue205
  t57 := Try.underlying209
  a57 := Try.isAgg209
  z57 := Try.sizeOf209
  v57 := Try.zeroValue209
  t63 := Try.underlying225
  a63 := Try.isAgg225
  z63 := Try.sizeOf225
  v63 := Try.zeroValue225
  t64 := Try.underlying226
  a64 := Try.isAgg226
  z64 := Try.sizeOf226
  v64 := Try.zeroValue226
end Go.Proofs.Ytaonijdhmgcbjaa

namespace Go.Proofs.Ytaonijdhmgcbjaa
open Go.RowKit Go.Maps Go.Sort Go.Shelf Go.Lib
set_option linter.unusedSectionVars false

theorem sortsI (m : Nat) : AnyZI.SortsIn Try.prog rhoSorted Fence.wide m :=
  ⟨fun blk off cap ss W hH hblk hsz => callsIn_wide.2 (AnyM.slices_Sort_int laySortI blk off cap ss W hH hblk hsz),
   fun p cap W => callsIn_wide.2 (AnyM.slices_Sort_int_none laySortI p cap W)⟩
theorem keysOf_any (gm : Nat) (w : World) : Calls Try.prog 43 #[.map (some gm)] w fun e w' => ∃ g : Nat, e = .returned (.func (.func 71) #[] #[.pointer (some ⟨g, 0, none⟩)]) ∧ Mem ⟨0, [], w⟩ w' [entBlk g 112 #[.map (some gm)]] := by
  refine (callsIn_wide.1 (AnyZI.keys_in layKeys Fence.wide 5 trivial rfl (some gm) w)).mono ?_
  rintro e w' ⟨rfl, rfl⟩
  refine ⟨w.heap.size, rfl, ?_⟩
  exact (Mem.nil ⟨0, [], w⟩).alloc (e := entBlk w.heap.size 112 #[.map (some gm)]) _ (fun k hk => hk) (by show (w.heap.push _)[w.heap.size]? = _; exact Array.getElem?_push_size)
theorem ins_perm {H : Type} (x : Lit × DataW H) : ∀ l : List (Lit × DataW H), (DataW.insert x l).Perm (x :: l)
  | [] => List.Perm.refl _
  | y :: l => by
    unfold DataW.insert
    split
    · exact List.Perm.refl _
    · exact ((ins_perm x l).cons y).trans (List.Perm.swap x y l)
theorem inss_perm {H : Type} : ∀ l : List (Lit × DataW H), (l.foldr DataW.insert []).Perm l
  | [] => List.Perm.refl _
  | x :: l => (ins_perm x _).trans ((inss_perm l).cons x)
/-- the keys, sorted -/
abbrev KeysTo (D : List (Int × Int)) := {ks : List Int // ks.Perm (D.map (·.1)) ∧ ks.Pairwise (· ≤ ·)}
set_option maxHeartbeats 1000000 in
theorem sortedKeys_any (gm g : Nat) (D : List (Int × Int)) (w : World) (hg : Blk w g 112 #[.map (some gm)]) (hm : MapI intV w gm D) (hnd : (D.map (·.1)).Nodup) (hr : ∀ p ∈ D, -9223372036854775808 ≤ p.1 ∧ p.1 ≤ 9223372036854775807) (hl : D.length ≤ 1000) :
    Calls Try.prog 42 #[.func (.func 71) #[] #[.pointer (some ⟨g, 0, none⟩)]] w fun e w' => ∃ x : Option Addr × Nat × KeysTo D, e = .returned (.slice x.1 x.2.2.1.length x.2.1) ∧ Mem ⟨0, [], w⟩ w' [entOwn intEnc 1 3 x.1 x.2.1 x.2.2.1] := by
  obtain ⟨es, cl, hb, hes, hbo⟩ := hm
  have hkl : ∀ x ∈ es.toList, ∃ p ∈ D, x.key = .int .i64 p.1 := fun x hx => by
    have h1 : (x.key, x.val) ∈ rowOfMap intV D := by rw [← hes]; exact List.mem_map.2 ⟨x, hx, rfl⟩
    unfold rowOfMap at h1
    obtain ⟨p, hp, he⟩ := List.mem_map.1 h1
    exact ⟨p, hp, (congrArg Prod.fst he).symm⟩
  have hky : ∀ a : Int, -9223372036854775808 ≤ a ∧ a ≤ 9223372036854775807 → keyOf Try.prog 3 (.int .i64 a) = some (.int .i64 a) := fun a ha => by
    refine keyOf_int_mk Try.underlying3 ?_
    show (decide (IntKind.i64.min ≤ a) && decide (a ≤ IntKind.i64.max)) = true
    rw [Bool.and_eq_true, decide_eq_true_eq, decide_eq_true_eq]
    exact ha
  have hlen : es.size = D.length := by
    have := congrArg List.length hes
    simpa [rowOfMap] using this
  obtain ⟨kv, hkv⟩ : ∃ kv : Value → Int, ∀ k a, kv (.int k a) = a := ⟨fun v => match v with | .int _ a => a | _ => 0, fun _ _ => rfl⟩
  obtain ⟨R, hR⟩ : ∃ R : Value → Option (DataW Unit × List MemPlace), R = fun _ => some (.nil, []) := ⟨_, rfl⟩
  have hrd : ∀ x ∈ es.toList, Go.WideElems.rd Try.prog 3 R x = some (.int .i64 (kv x.key), .nil) := fun x hx => by
    obtain ⟨p, hp, he⟩ := hkl x hx
    unfold Go.WideElems.rd
    rw [he, hkv, hky p.1 (hr p hp), hR]; rfl
  obtain ⟨D0, hD0⟩ : ∃ D0 : DataW Unit, D0 = .map ((es.toList.map (Go.WideElems.rg Try.prog 3 R)).foldr DataW.insert []) := ⟨_, rfl⟩
  have hmk : es.toList.map (fun x => kv x.key) = D.map (·.1) := by
    have h1 : es.toList.map (fun x => kv x.key) = (es.toList.map (fun e => (e.key, e.val))).map (fun q => kv q.1) := by rw [List.map_map]; rfl
    rw [h1, hes]
    unfold rowOfMap
    rw [List.map_map]
    refine List.map_congr_left fun p _ => ?_
    exact hkv _ _
  have hik : (intKeys D0).Perm (D.map (·.1)) := by
    rw [hD0]
    show (((es.toList.map (Go.WideElems.rg Try.prog 3 R)).foldr DataW.insert []).map fun p => Go.intOf p.1).Perm _
    refine ((inss_perm _).map _).trans ?_
    rw [List.map_map, ← hmk]
    have : es.toList.map ((fun p : Lit × DataW Unit => Go.intOf p.1) ∘ Go.WideElems.rg Try.prog 3 R) = es.toList.map (fun x => kv x.key) := List.map_congr_left fun x hx => by
      rw [Function.comp_apply, Go.WideElems.rg_of (hrd x hx)]; rfl
    rw [this]
  have hsz : Maps.size D0 = D.length := by
    rw [hD0]
    show ((es.toList.map (Go.WideElems.rg Try.prog 3 R)).foldr DataW.insert []).length = _
    rw [(inss_perm _).length_eq, List.length_map]
    simpa using hlen
  have hown : w.ownsMap Try.prog 3 R gm es.size D0 := by
    refine ⟨es, cl, hb, ⟨by unfold maxLen; omega, ⟨hbo.2, hbo.1, ?_⟩, fun x hx => ⟨_, hrd x hx⟩⟩, Nat.le_refl _, hD0⟩
    have h1 : es.toList.map (·.key) = D.map (fun p => Value.int .i64 p.1) := by
      have h2 : es.toList.map (·.key) = (es.toList.map (fun e => (e.key, e.val))).map Prod.fst := by rw [List.map_map]; rfl
      rw [h2, hes]
      unfold rowOfMap
      rw [List.map_map]; rfl
    rw [h1]
    have h3 : D.map (fun p => Value.int .i64 p.1) = (D.map (·.1)).map (Value.int .i64) := by rw [List.map_map]; rfl
    rw [h3]
    exact List.Pairwise.map _ (fun a b hab he => hab (by simpa using he)) hnd
  have hgl := hg.lt
  have hseq := AnyZI.keys_gives (ρ := rhoKeys) { layKeys with } Fence.wide 2 trivial rfl (by omega) g gm es.size D0 w hgl (hg.cell 0) hown
  have cS := AnyZI.sorted_in laySorted Fence.wide 5 trivial trivial trivial trivial rfl (by omega) (sortsI _) (enters_of Try.func70 (by kernel_rfl) rfl) 71 #[.pointer (some ⟨g, 0, none⟩)] trivial (enters_of Try.func71 (by kernel_rfl) rfl) _ _ (by rw [hsz]; unfold maxLen; omega) (by rw [hsz]; omega) _ hseq
  refine (callsIn_wide.1 cS).mono ?_
  rintro e w' ⟨v, ss, rfl, hS, hrow, hnil, hbw⟩
  have hp : (ss.mergeSort (fun x y => decide (x ≤ y))).Perm (D.map (·.1)) := (List.mergeSort_perm _ _).trans (hS.trans hik)
  have hle : (ss.mergeSort (fun x y => decide (x ≤ y))).Pairwise (· ≤ ·) := by
    have := List.pairwise_mergeSort (le := fun x y : Int => decide (x ≤ y)) (fun a b c h1 h2 => by simp only [decide_eq_true_eq] at *; omega) (fun a b => by simp only [Bool.or_eq_true, decide_eq_true_eq]; omega) ss
    exact this.imp fun h => of_decide_eq_true h
  have hll : (ss.mergeSort (fun x y => decide (x ≤ y))).length = ss.length := (List.mergeSort_perm _ _).length_eq
  generalize ss.mergeSort (fun x y => decide (x ≤ y)) = ks at *
  have hfl : ks.map encZ = ks.flatMap intEnc := by
    clear hp hle hll hrow
    induction ks with
    | nil => rfl
    | cons a l ih => rw [List.map_cons, List.flatMap_cons, ih]; rfl
  rcases hrow.2 with ⟨rfl, h0⟩ | ⟨g2, cap, cur, rfl, h2⟩
  · obtain rfl : ks = [] := List.length_eq_zero_iff.1 (by omega)
    refine ⟨(none, 0, ⟨[], hp, hle⟩), rfl, Mem.ofOwn hbw (Own.nil _ _)⟩
  · refine ⟨(some ⟨g2, 0, none⟩, cap, ⟨ks, hp, hle⟩), by rw [hll], Mem.ofOwn hbw ?_⟩
    unfold Own
    rw [← hfl]
    rw [hll]
    exact hrow
end Go.Proofs.Ytaonijdhmgcbjaa
