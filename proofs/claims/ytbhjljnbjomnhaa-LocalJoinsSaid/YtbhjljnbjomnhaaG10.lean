/- Lemmas for the walks (Ahc, Loc1, Loc2). No condition. -/
import Derived.Test.YtbhjljnbjomnhaaG09
import Derived.Test.YtbhjljnbjomnhaaG05
import Derived.Test.YtbhjljnbjomnhaaG08
import Derived.Test.YtbhjljnbjomnhaaG06
import Derived.Test.YtbhjljnbjomnhaaG07
set_option linter.unusedSimpArgs false
set_option linter.unusedVariables false
set_option linter.unusedSectionVars false
set_option linter.unnecessarySimpa false
namespace Go.Proofs.Ytbhjljnbjomnhaa
open Go.RowKit

/-! who was answered ahead of whose call -/
def aheadP (cs : List Cl) (i j : Nat) : Bool := !decide ((cs.getD i default).to = -1) && decide ((cs.getD i default).to < (cs.getD j default).from_)
theorem clD {cs : List Cl} {i : Nat} (h : i < cs.length) : cs.getD i default = cs[i] := by simp [h]
def relAhead (cs : List Cl) : Nat → Nat := relN (aheadP cs) cs.length
theorem relAhead_done (cs : List Cl) : relN (fun i j => (fun _ _ => false) i j || aheadP cs i j) cs.length = relAhead cs := by simp [relAhead]
section
variable (A : Option Addr) (c : Nat) (cs : List Cl) (w : World) (hA : RdCl w A cs)
include hA
set_option maxRecDepth 100000 in
set_option maxHeartbeats 4000000 in
theorem ahead_ok (hl : cs.length ≤ 12) : Calls Try.prog 54 #[.slice A cs.length c] w fun e w' => e = .returned (.tuple #[.agg (relCells cs.length (relAhead cs)), .int .i64 0]) ∧ Below w.heap.size w w' := by
  refine calls_T (S := []) [] Try.func54 rfl Try.ntmps54 (by simp) (Mem.nil _) ?_
  repeat' (first | (refine GO ?_) | (refine GOE ?_; (first | (rintro _ _ ⟨rfl, rfl⟩) | (rintro _ _ ⟨g, rfl, rfl⟩) | (rintro _ _ ⟨A', c', rfl, rfl⟩))) | ((refine GO2 ?_ ?_) <;> intro h <;> (try (repeat (first | with_reducible (replace h := of_decide_eq_true h) | with_reducible (replace h := of_decide_eq_false h) | with_reducible (replace h := bnt h) | with_reducible (replace h := bnf h) | with_reducible (replace h := Int.not_lt.mp h) | with_reducible (replace h := Int.not_le.mp h) | with_reducible (replace h := band_dec h) | with_reducible (replace h := band_decF h) | with_reducible (replace h := bor_dec h) | with_reducible (replace h := bor_decF h)))) <;> (try (exfalso; first | contradiction | omega))) | fail)
  rename_i g2
  obtain ⟨gr, rfl⟩ : ∃ x, x = g := ⟨_, rfl⟩
  refine T_loop (X := Nat) (fun k => [(18, .int .i64 (k : Nat)), (17, .int .i64 cs.length), (16, .slice A cs.length c), (4, .pointer (some ⟨gr, 0, none⟩)), (2, .pointer (some ⟨g2, 0, none⟩)), (0, .slice A cs.length c)])
    (fun k => [entBlk gr 36 (relCells cs.length (relN (orP (fun _ _ => false) (aheadP cs) k 0) cs.length)), entBlk g2 36 (relCells 0 (fun _ => 0))]) (fun k => k ≤ cs.length) (fun k => cs.length - k) 0 (by omega) (by (repeat (first | exact SubE.nil _ | refine SubE.cons rfl ?_))) (fun w hw => by rw [orP_0, relN_0]; exact hw) ?_
  intro k hk
  by_cases hkk : k < cs.length
  · obtain ⟨b, o, rfl, _⟩ := RdE.open hA (by omega)
    repeat' (first | (refine GO ?_) | (refine GOE ?_; (first | (rintro _ _ ⟨rfl, rfl⟩) | (rintro _ _ ⟨g, rfl, rfl⟩) | (rintro _ _ ⟨A', c', rfl, rfl⟩))) | ((refine GO2 ?_ ?_) <;> intro h <;> (try (repeat (first | with_reducible (replace h := of_decide_eq_true h) | with_reducible (replace h := of_decide_eq_false h) | with_reducible (replace h := bnt h) | with_reducible (replace h := bnf h) | with_reducible (replace h := Int.not_lt.mp h) | with_reducible (replace h := Int.not_le.mp h) | with_reducible (replace h := band_dec h) | with_reducible (replace h := band_decF h) | with_reducible (replace h := bor_dec h) | with_reducible (replace h := bor_decF h)))) <;> (try (exfalso; first | contradiction | omega))) | fail)
    obtain ⟨gm, rfl⟩ : ∃ x, x = g := ⟨_, rfl⟩
    refine T_loop (X := Nat) (fun m => [(25, .int .i64 (m : Nat)), (24, .int .i64 cs.length), (23, .slice (some ⟨b, o, none⟩) cs.length c), (6, .pointer (some ⟨gm, 0, none⟩)), (5, .int .i64 (k : Nat)), (18, .int .i64 (k : Nat)), (17, .int .i64 cs.length), (16, .slice (some ⟨b, o, none⟩) cs.length c), (4, .pointer (some ⟨gr, 0, none⟩)), (2, .pointer (some ⟨g2, 0, none⟩)), (0, .slice (some ⟨b, o, none⟩) cs.length c)])
      (fun m => [entBlk gm 43 cs[k].enc.toArray, entBlk gr 36 (relCells cs.length (relN (orP (fun _ _ => false) (aheadP cs) k m) cs.length)), entBlk g2 36 (relCells 0 (fun _ => 0))]) (fun m => m ≤ cs.length) (fun m => cs.length - m) 0 (by omega) (by (repeat (first | exact SubE.nil _ | refine SubE.cons rfl ?_))) (fun w hw => hw) ?_
    intro m hml
    by_cases hmm : m < cs.length
    · have hq : aheadP cs k m = (!decide (cs[k].to = -1) && decide (cs[k].to < cs[m].from_)) := by rw [aheadP, clD hkk, clD hmm]
      have hlt := relN_lt (orP (fun _ _ => false) (aheadP cs) k m) (n := cs.length) (by omega) k
      have hpm := pow_lt_16 (m := m) (by omega)
      have hyes := relN_yes (P := fun _ _ => false) (Q := aheadP cs) hkk hmm
      have hno := relN_no (P := fun _ _ => false) (Q := aheadP cs) (n := cs.length) (k := k) (m := m)
      obtain ⟨F, hFF⟩ : ∃ F, relN (orP (fun _ _ => false) (aheadP cs) k m) cs.length = F := ⟨_, rfl⟩
      rw [hFF] at hyes hno hlt ⊢
      repeat' (first | (refine GO ?_) | (refine GOE ?_; (first | (rintro _ _ ⟨rfl, rfl⟩) | (rintro _ _ ⟨g, rfl, rfl⟩) | (rintro _ _ ⟨A', c', rfl, rfl⟩))) | ((refine GO2 ?_ ?_) <;> intro h <;> (try (repeat (first | with_reducible (replace h := of_decide_eq_true h) | with_reducible (replace h := of_decide_eq_false h) | with_reducible (replace h := bnt h) | with_reducible (replace h := bnf h) | with_reducible (replace h := Int.not_lt.mp h) | with_reducible (replace h := Int.not_le.mp h) | with_reducible (replace h := band_dec h) | with_reducible (replace h := band_decF h) | with_reducible (replace h := bor_dec h) | with_reducible (replace h := bor_decF h)))) <;> (try (exfalso; first | contradiction | omega))) | fail)
      all_goals
        refine At_rounds (m + 1) (by omega) (by omega) (by (repeat (first | exact SubE.nil _ | refine SubE.cons rfl ?_))) (fun w hw => ?_)
        first
          | (rw [← hyes (by rw [hq, decide_eq_false (show ¬ cs[k].to = -1 by assumption), decide_eq_true (by assumption)]; rfl)]; exact hw.sub (by first | ((repeat (first | with_reducible exact List.nil_sublist _ | with_reducible exact List.Sublist.refl _ | with_reducible apply List.Sublist.cons_cons | with_reducible apply List.Sublist.cons)); done) | (repeat (first | exact List.nil_sublist _ | exact List.Sublist.refl _ | apply List.Sublist.cons_cons | apply List.Sublist.cons))))
          | (rw [← hno (by rw [hq, decide_eq_true (show cs[k].to = -1 by assumption)]; rfl)]; exact hw.sub (by first | ((repeat (first | with_reducible exact List.nil_sublist _ | with_reducible exact List.Sublist.refl _ | with_reducible apply List.Sublist.cons_cons | with_reducible apply List.Sublist.cons)); done) | (repeat (first | exact List.nil_sublist _ | exact List.Sublist.refl _ | apply List.Sublist.cons_cons | apply List.Sublist.cons))))
          | (rw [← hno (by rw [hq, decide_eq_false (show ¬ cs[k].to < cs[m].from_ by omega)]; simp)]; exact hw.sub (by first | ((repeat (first | with_reducible exact List.nil_sublist _ | with_reducible exact List.Sublist.refl _ | with_reducible apply List.Sublist.cons_cons | with_reducible apply List.Sublist.cons)); done) | (repeat (first | exact List.nil_sublist _ | exact List.Sublist.refl _ | apply List.Sublist.cons_cons | apply List.Sublist.cons))))
    · obtain rfl : m = cs.length := by omega
      repeat' (first | (refine GO ?_) | (refine GOE ?_; (first | (rintro _ _ ⟨rfl, rfl⟩) | (rintro _ _ ⟨g, rfl, rfl⟩) | (rintro _ _ ⟨A', c', rfl, rfl⟩))) | ((refine GO2 ?_ ?_) <;> intro h <;> (try (repeat (first | with_reducible (replace h := of_decide_eq_true h) | with_reducible (replace h := of_decide_eq_false h) | with_reducible (replace h := bnt h) | with_reducible (replace h := bnf h) | with_reducible (replace h := Int.not_lt.mp h) | with_reducible (replace h := Int.not_le.mp h) | with_reducible (replace h := band_dec h) | with_reducible (replace h := band_decF h) | with_reducible (replace h := bor_dec h) | with_reducible (replace h := bor_decF h)))) <;> (try (exfalso; first | contradiction | omega))) | fail)
      refine At_rounds (k + 1) (by omega) (by omega) (by (repeat (first | exact SubE.nil _ | refine SubE.cons rfl ?_))) (fun w hw => ?_)
      rw [← relN_next]
      exact hw.sub (by first | ((repeat (first | with_reducible exact List.nil_sublist _ | with_reducible exact List.Sublist.refl _ | with_reducible apply List.Sublist.cons_cons | with_reducible apply List.Sublist.cons)); done) | (repeat (first | exact List.nil_sublist _ | exact List.Sublist.refl _ | apply List.Sublist.cons_cons | apply List.Sublist.cons)))
  · obtain rfl : k = cs.length := by omega
    repeat' (first | (refine GO ?_) | (refine GOE ?_; (first | (rintro _ _ ⟨rfl, rfl⟩) | (rintro _ _ ⟨g, rfl, rfl⟩) | (rintro _ _ ⟨A', c', rfl, rfl⟩))) | ((refine GO2 ?_ ?_) <;> intro h <;> (try (repeat (first | with_reducible (replace h := of_decide_eq_true h) | with_reducible (replace h := of_decide_eq_false h) | with_reducible (replace h := bnt h) | with_reducible (replace h := bnf h) | with_reducible (replace h := Int.not_lt.mp h) | with_reducible (replace h := Int.not_le.mp h) | with_reducible (replace h := band_dec h) | with_reducible (replace h := band_decF h) | with_reducible (replace h := bor_dec h) | with_reducible (replace h := bor_decF h)))) <;> (try (exfalso; first | contradiction | omega))) | fail)
    ((with_reducible apply At_retM Try.results54); (repeat (first | exact ResIs.nil | (apply ResIs.tmp; exact rfl) | (apply ResIs.cell; exact rfl; exact Lds.auto))); intro w' hw)
    exact ⟨by rw [← relAhead_done, ← relN_done]; rfl, hw.below0 rfl⟩
set_option maxRecDepth 100000 in
set_option maxHeartbeats 4000000 in
omit hA in
theorem ahead_large (hl : 12 < cs.length) (hl2 : cs.length ≤ 9223372036854775807) : Calls Try.prog 54 #[.slice A cs.length c] w fun e w' => e = .returned (.tuple #[.agg (relCells 0 (fun _ => 0)), .int .i64 2]) ∧ Below w.heap.size w w' := by
  refine calls_T (S := []) [] Try.func54 rfl Try.ntmps54 (by simp) (Mem.nil _) ?_
  repeat' (first | (refine GO ?_) | (refine GOE ?_; (first | (rintro _ _ ⟨rfl, rfl⟩) | (rintro _ _ ⟨g, rfl, rfl⟩) | (rintro _ _ ⟨A', c', rfl, rfl⟩))) | ((refine GO2 ?_ ?_) <;> intro h <;> (try (repeat (first | with_reducible (replace h := of_decide_eq_true h) | with_reducible (replace h := of_decide_eq_false h) | with_reducible (replace h := bnt h) | with_reducible (replace h := bnf h) | with_reducible (replace h := Int.not_lt.mp h) | with_reducible (replace h := Int.not_le.mp h) | with_reducible (replace h := band_dec h) | with_reducible (replace h := band_decF h) | with_reducible (replace h := bor_dec h) | with_reducible (replace h := bor_decF h)))) <;> (try (exfalso; first | contradiction | omega))) | fail)
  ((with_reducible apply At_retM Try.results54); (repeat (first | exact ResIs.nil | (apply ResIs.tmp; exact rfl) | (apply ResIs.cell; exact rfl; exact Lds.auto))); intro w' hw)
  exact ⟨rfl, hw.below0 rfl⟩
set_option maxRecDepth 100000 in
set_option maxHeartbeats 4000000 in
theorem callRel_any (hl : cs.length ≤ 12) : Calls Try.prog 13 #[.slice A cs.length c] w fun e w' => e = .returned (.agg (relCells cs.length (relAhead cs))) ∧ Below w.heap.size w w' := by
  refine calls_T (S := []) [] Try.func13 rfl Try.ntmps13 (by simp) (Mem.nil _) ?_
  repeat' (first | (refine GO ?_) | (refine GOE ?_; (first | (rintro _ _ ⟨rfl, rfl⟩) | (rintro _ _ ⟨g, rfl, rfl⟩) | (rintro _ _ ⟨A', c', rfl, rfl⟩))) | ((refine GO2 ?_ ?_) <;> intro h <;> (try (repeat (first | with_reducible (replace h := of_decide_eq_true h) | with_reducible (replace h := of_decide_eq_false h) | with_reducible (replace h := bnt h) | with_reducible (replace h := bnf h) | with_reducible (replace h := Int.not_lt.mp h) | with_reducible (replace h := Int.not_le.mp h) | with_reducible (replace h := band_dec h) | with_reducible (replace h := band_decF h) | with_reducible (replace h := bor_dec h) | with_reducible (replace h := bor_decF h)))) <;> (try (exfalso; first | contradiction | omega))) | fail)
  rename_i g2
  obtain ⟨gr, rfl⟩ : ∃ x, x = g := ⟨_, rfl⟩
  refine T_loop (X := Nat) (fun k => [(11, .int .i64 (k : Nat)), (10, .int .i64 cs.length), (3, .pointer (some ⟨gr, 0, none⟩)), (2, .pointer (some ⟨g2, 0, none⟩)), (0, .slice A cs.length c)])
    (fun k => [entBlk gr 36 (relCells cs.length (relN (orP (fun _ _ => false) (aheadP cs) k 0) cs.length)), entBlk g2 36 (relCells 0 (fun _ => 0))]) (fun k => k ≤ cs.length) (fun k => cs.length - k) 0 (by omega) (by (repeat (first | exact SubE.nil _ | refine SubE.cons rfl ?_))) (fun w hw => by rw [orP_0, relN_0]; exact hw) ?_
  intro k hk
  by_cases hkk : k < cs.length
  · obtain ⟨b, o, rfl, _⟩ := RdE.open hA (by omega)
    repeat' (first | (refine GO ?_) | (refine GOE ?_; (first | (rintro _ _ ⟨rfl, rfl⟩) | (rintro _ _ ⟨g, rfl, rfl⟩) | (rintro _ _ ⟨A', c', rfl, rfl⟩))) | ((refine GO2 ?_ ?_) <;> intro h <;> (try (repeat (first | with_reducible (replace h := of_decide_eq_true h) | with_reducible (replace h := of_decide_eq_false h) | with_reducible (replace h := bnt h) | with_reducible (replace h := bnf h) | with_reducible (replace h := Int.not_lt.mp h) | with_reducible (replace h := Int.not_le.mp h) | with_reducible (replace h := band_dec h) | with_reducible (replace h := band_decF h) | with_reducible (replace h := bor_dec h) | with_reducible (replace h := bor_decF h)))) <;> (try (exfalso; first | contradiction | omega))) | fail)
    refine T_loop (X := Nat) (fun m => [(16, .int .i64 (m : Nat)), (15, .int .i64 cs.length), (4, .int .i64 (k : Nat)), (11, .int .i64 (k : Nat)), (10, .int .i64 cs.length), (3, .pointer (some ⟨gr, 0, none⟩)), (2, .pointer (some ⟨g2, 0, none⟩)), (0, .slice (some ⟨b, o, none⟩) cs.length c)])
      (fun m => [entBlk gr 36 (relCells cs.length (relN (orP (fun _ _ => false) (aheadP cs) k m) cs.length)), entBlk g2 36 (relCells 0 (fun _ => 0))]) (fun m => m ≤ cs.length) (fun m => cs.length - m) 0 (by omega) (by (repeat (first | exact SubE.nil _ | refine SubE.cons rfl ?_))) (fun w hw => hw) ?_
    intro m hml
    by_cases hmm : m < cs.length
    · have hq : aheadP cs k m = (!decide (cs[k].to = -1) && decide (cs[k].to < cs[m].from_)) := by rw [aheadP, clD hkk, clD hmm]
      have hlt := relN_lt (orP (fun _ _ => false) (aheadP cs) k m) (n := cs.length) (by omega) k
      have hpm := pow_lt_16 (m := m) (by omega)
      have hyes := relN_add (P := fun _ _ => false) (Q := aheadP cs) hkk hmm
      have hno := relN_no (P := fun _ _ => false) (Q := aheadP cs) (n := cs.length) (k := k) (m := m)
      have hlt2 := fun h => congrArg (fun f => f k) (hyes h rfl)
      have hlt3 := relN_lt (orP (fun _ _ => false) (aheadP cs) k (m + 1)) (n := cs.length) (by omega) k
      obtain ⟨F, hFF⟩ : ∃ F, relN (orP (fun _ _ => false) (aheadP cs) k m) cs.length = F := ⟨_, rfl⟩
      rw [hFF] at hyes hno hlt hlt2 ⊢
      repeat' (first
        | (refine GG ?_) | (refine GE ?_; (first | (rintro _ _ ⟨rfl, rfl⟩) | (rintro _ _ ⟨g, rfl, rfl⟩) | (rintro _ _ ⟨A', c', rfl, rfl⟩)); (try refine ⟨SUB, ?_⟩)) | ((refine GO2 ?_ ?_) <;> intro h <;> (try (repeat (first | with_reducible (replace h := of_decide_eq_true h) | with_reducible (replace h := of_decide_eq_false h) | with_reducible (replace h := bnt h) | with_reducible (replace h := bnf h) | with_reducible (replace h := Int.not_lt.mp h) | with_reducible (replace h := Int.not_le.mp h) | with_reducible (replace h := band_dec h) | with_reducible (replace h := band_decF h) | with_reducible (replace h := bor_dec h) | with_reducible (replace h := bor_decF h)))) <;> (try (exfalso; first | contradiction | omega))) | (refine GOF ?_ ?_) | ((with_reducible apply T_draw (id := 8) 1000 (OT.seq [(0, 0), (0, 1), (0, 2), (0, 3), (1, 4), (0, 5), (0, 6), (0, 7), (0, 8), (0, 9), (0, 10), (0, 12), (0, 13), (0, 14), (0, 15), (1, 11), (1, 16), (0, 17), (0, 18)] .nil)); kernel_rfl; exact rfl; kernel_rfl; (repeat (first | with_reducible exact Blind.body | with_reducible apply Blind.seq | with_reducible apply Blind.block))) | ((with_reducible apply T_draw (id := 9) 9 (OT.seq [(0, 0), (0, 1), (0, 2), (0, 4), (0, 5), (0, 7), (1, 3), (0, 6), (0, 8), (3, 9)] .nil)); kernel_rfl; exact rfl; kernel_rfl; (repeat (first | with_reducible exact Blind.body | with_reducible apply Blind.seq | with_reducible apply Blind.block))) | ((with_reducible apply TD_q0); (with_reducible apply QS_add16); exact rfl; exact rfl; exact rfl) | ((with_reducible apply TD_q1); (with_reducible apply QS_add16); exact rfl; exact rfl; exact rfl) | fail)
      all_goals
        refine At_rounds (m + 1) (by omega) (by omega) (by (repeat (first | exact SubE.nil _ | refine SubE.cons rfl ?_))) (fun w hw => ?_)
        first
          | (have hQ : aheadP cs k m = true := by rw [hq, decide_eq_false (show ¬ cs[k].to = -1 by assumption), decide_eq_true (by assumption)]; rfl
             have h3 := hlt2 hQ
             simp only [upd_same] at h3
             rw [← hyes hQ rfl, show F k + 2 ^ m = (F k + 2 ^ m) % 65536 by rw [Nat.mod_eq_of_lt (by omega)]]
             exact hw)
          | (rw [← hno (by rw [hq, decide_eq_true (show cs[k].to = -1 by assumption)]; rfl)]; exact hw)
          | (rw [← hno (by rw [hq, decide_eq_false (show ¬ cs[k].to < cs[m].from_ by omega)]; simp)]; exact hw)
    · obtain rfl : m = cs.length := by omega
      repeat' (first | (refine GG ?_) | (refine GE ?_; (first | (rintro _ _ ⟨rfl, rfl⟩) | (rintro _ _ ⟨g, rfl, rfl⟩) | (rintro _ _ ⟨A', c', rfl, rfl⟩)); (try refine ⟨SUB, ?_⟩)) | ((refine GO2 ?_ ?_) <;> intro h <;> (try (repeat (first | with_reducible (replace h := of_decide_eq_true h) | with_reducible (replace h := of_decide_eq_false h) | with_reducible (replace h := bnt h) | with_reducible (replace h := bnf h) | with_reducible (replace h := Int.not_lt.mp h) | with_reducible (replace h := Int.not_le.mp h) | with_reducible (replace h := band_dec h) | with_reducible (replace h := band_decF h) | with_reducible (replace h := bor_dec h) | with_reducible (replace h := bor_decF h)))) <;> (try (exfalso; first | contradiction | omega))) | (refine GOF ?_ ?_) | fail)
      refine At_rounds (k + 1) (by omega) (by omega) (by (repeat (first | exact SubE.nil _ | refine SubE.cons rfl ?_))) (fun w hw => ?_)
      rw [← relN_next]
      exact hw
  · obtain rfl : k = cs.length := by omega
    repeat' (first | (refine GO ?_) | (refine GOE ?_; (first | (rintro _ _ ⟨rfl, rfl⟩) | (rintro _ _ ⟨g, rfl, rfl⟩) | (rintro _ _ ⟨A', c', rfl, rfl⟩))) | ((refine GO2 ?_ ?_) <;> intro h <;> (try (repeat (first | with_reducible (replace h := of_decide_eq_true h) | with_reducible (replace h := of_decide_eq_false h) | with_reducible (replace h := bnt h) | with_reducible (replace h := bnf h) | with_reducible (replace h := Int.not_lt.mp h) | with_reducible (replace h := Int.not_le.mp h) | with_reducible (replace h := band_dec h) | with_reducible (replace h := band_decF h) | with_reducible (replace h := bor_dec h) | with_reducible (replace h := bor_decF h)))) <;> (try (exfalso; first | contradiction | omega))) | fail)
    ((with_reducible apply At_retM Try.results13); (repeat (first | exact ResIs.nil | (apply ResIs.tmp; exact rfl) | (apply ResIs.cell; exact rfl; exact Lds.auto))); intro w' hw)
    exact ⟨by rw [← relAhead_done, ← relN_done]; rfl, hw.below0 rfl⟩
end
end Go.Proofs.Ytbhjljnbjomnhaa

namespace Go.Proofs.Ytbhjljnbjomnhaa
open Go.RowKit

def idxK : List Int → Int → Option Nat
  | [], _ => none
  | a :: l, k => if k = a then some 0 else (idxK l k).map (· + 1)
theorem idxK_at : ∀ {l : List Int} {k : Int} {j : Nat}, idxK l k = some j → l[j]? = some k
  | [], _, _, h => by cases h
  | a :: l, k, j, h => by
    unfold idxK at h
    split at h
    · rename_i e; cases h; simp [e]
    · cases hi : idxK l k with
      | none => rw [hi] at h; cases h
      | some i => rw [hi] at h; cases h; simpa using idxK_at hi
theorem putM_idx {α : Type} (v : α) : ∀ (D : List (Int × α)) (k : Int), putM D k v = match idxK (D.map (·.1)) k with | some j => D.set j (k, v) | none => D ++ [(k, v)]
  | [], k => rfl
  | p :: D, k => by
    have ih := putM_idx v D k
    simp only [putM, List.map_cons, idxK]
    by_cases e : k = p.1
    · rw [if_pos e, if_pos e]; rfl
    · rw [if_neg e, if_neg e, ih]
      cases idxK (D.map (·.1)) k <;> rfl
theorem lookM_idx {α : Type} : ∀ (D : List (Int × α)) (k : Int), lookM D k = (idxK (D.map (·.1)) k).bind fun j => D[j]?.map (·.2)
  | [], k => rfl
  | p :: D, k => by
    have ih := lookM_idx D k
    simp only [lookM, List.map_cons, idxK]
    by_cases e : k = p.1
    · rw [if_pos e, if_pos e]; rfl
    · rw [if_neg e, if_neg e, ih]
      cases idxK (D.map (·.1)) k <;> rfl
def addN (D : List (Int × List Int)) (t i : Int) : List (Int × List Int) := putM D t ((lookM D t).getD [] ++ [i])
def numD (cs : List Cl) : Nat → List (Int × List Int)
  | 0 => []
  | k + 1 => addN (numD cs k) (cs.getD k default).thing k
/-- the places of a thing's calls -/
def atL (cs : List Cl) (t : Int) : Nat → List Int
  | 0 => []
  | k + 1 => if (cs.getD k default).thing = t then atL cs t k ++ [(k : Int)] else atL cs t k
theorem numD_look (cs : List Cl) (t : Int) : ∀ k, lookM (numD cs k) t = if atL cs t k = [] then none else some (atL cs t k)
  | 0 => rfl
  | k + 1 => by
    have ih := numD_look cs t k
    unfold numD addN
    rw [lookM_put]
    by_cases e : t = (cs.getD k default).thing
    · have ea : atL cs t (k + 1) = atL cs t k ++ [(k : Int)] := by rw [atL, if_pos e.symm]
      rw [if_pos e, ea, if_neg (by simp), ← e, ih]
      by_cases h : atL cs t k = []
      · rw [if_pos h, h]; rfl
      · rw [if_neg h]; rfl
    · have ea : atL cs t (k + 1) = atL cs t k := by rw [atL, if_neg (fun h => e h.symm)]
      rw [if_neg e, ea, ih]
theorem numD_len (cs : List Cl) : ∀ k, (numD cs k).length ≤ k
  | 0 => Nat.le_refl _
  | k + 1 => by
    have ih := numD_len cs k
    unfold numD addN
    rw [putM_idx]
    split
    · simp; omega
    · simp; omega
theorem atL_len (cs : List Cl) (t : Int) : ∀ k, (atL cs t k).length ≤ k
  | 0 => Nat.le_refl _
  | k + 1 => by
    have ih := atL_len cs t k
    unfold atL
    split
    · rw [List.length_append, List.length_singleton]; omega
    · omega
theorem numD_rows (cs : List Cl) : ∀ k (j : Nat) (h : j < (numD cs k).length), (numD cs k)[j].2.length ≤ k := by
  intro k j h
  have key : ∀ k, ∀ p ∈ numD cs k, p.2.length ≤ k := by
    intro k
    induction k with
    | zero => intro p hp; simp [numD] at hp
    | succ k ih =>
      intro p hp
      unfold numD addN at hp
      rw [putM_idx] at hp
      have hnew : ((lookM (numD cs k) (cs.getD k default).thing).getD [] ++ [(k : Int)]).length ≤ k + 1 := by
        rw [numD_look]
        have := atL_len cs (cs.getD k default).thing k
        rw [List.length_append, List.length_singleton]
        by_cases h : atL cs (cs.getD k default).thing k = []
        · rw [if_pos h]; simp
        · rw [if_neg h]; simp only [Option.getD_some]; omega
      split at hp
      · rcases List.mem_or_eq_of_mem_set hp with h1 | h1
        · have := ih p h1; omega
        · subst h1; exact hnew
      · rcases List.mem_append.1 hp with h1 | h1
        · have := ih p h1; omega
        · simp only [List.mem_singleton] at h1; subst h1; exact hnew
  exact key k _ (List.getElem_mem h)
section
variable {P : Program} {C : Ctx} {E : Slots} {S : List Ent} {ty g t k e : Nat} {x y : Operand} {n : Int} {H : List (Int × Hd)} {u : Hd}
theorem QS_lookH [hm : MapOf P t k e] [hz : ZeroOf P e (.slice none 0 0)] {a : Option Addr} {m c : Nat} (hu : (lookM H n).getD hd0 = ⟨a, m, c⟩) (hx : evo E x = some (.map (some g))) (hy : evo E y = some (.int .i64 n)) (hD : entMap Hd.v g H ∈ S) : QS P C E S (.lookup t x y false) ty (.slice a m c) := by
  have h := QS_lookG (P := P) (C := C) (ty := ty) (t := t) (z := .slice none 0 0) (z0 := hd0) (hm := hm) (hz := hz) hx hy hD rfl
  rw [hu] at h
  exact h
end
theorem ES_mapUpH {P : Program} {C : Ctx} {E : Slots} {S S' : List Ent} {ty g t k e : Nat} {x y z : Operand} {n : Int} {H : List (Int × Hd)} {ps : String} {af : Array Edge} {g0 : Option (Nat × Bool)} [hm : MapOf P t k e] {a : Option Addr} {m c : Nat}
    (hx : evo E x = some (.map (some g))) (hy : evo E y = some (.int .i64 n)) (hv : evo E z = some (.slice a m c)) (hu : Upd S (entMap Hd.v g H) (entMap Hd.v g (putM H n ⟨a, m, c⟩)) S') : ES P C E S ⟨none, .mapUpdate t x y z, ty, ps, af, g0⟩ (fun E' T => E' = E ∧ T = S') :=
  ES_mapUpdate (hm := hm) hx hy hu hv
abbrev NumX (cs : List Cl) := {x : Nat × List (Int × Hd) // x.2.map (·.1) = (numD cs cs.length).map (·.1)}
section
variable (A : Option Addr) (c : Nat) (cs : List Cl) (w : World) (hA : RdCl w A cs) (hl : cs.length ≤ 200)
include hA hl
set_option maxRecDepth 100000 in
set_option maxHeartbeats 4000000 in
theorem numbers_any : Calls Try.prog 108 #[.slice A cs.length c] w fun e w' => ∃ x : NumX cs, e = .returned (.map (some x.1.1)) ∧ Mem ⟨0, [], w⟩ w' [entMap Hd.v x.1.1 x.1.2, entInner intEnc 1 3 (x.1.2.map (·.2)) ((numD cs cs.length).map (·.2))] := by
  refine calls_T (S := []) [] Try.func108 rfl Try.ntmps108 (by simp) (Mem.nil _) ?_
  repeat' (first | ((first | with_reducible (first | apply TL_q | apply TD_q0 | apply TD_q1 | apply TD_q2 | apply TD_q3) | ((with_reducible (first | apply TD_q0y | apply TD_q1y)); exact rfl; exact rfl; (with_reducible exact rfl))); (first | ((with_reducible apply QS_lookH hlook); exact rfl; exact rfl; (first | ((repeat (first | with_reducible exact List.mem_cons_self | with_reducible apply List.mem_cons_of_mem)); done) | (repeat (first | exact List.Mem.head _ | apply List.Mem.tail)))) | exact QS.auto); exact rfl) | ((with_reducible (first | apply TD_e2z | apply TD_e3z | apply TL_e | apply TD_e2 | apply TD_e3)); (first | ((with_reducible apply ES_mapUpH); exact rfl; exact rfl; exact rfl; (first | ((repeat (first | with_reducible exact Upd.here _ _ _ | with_reducible apply Upd.there)); done) | (repeat (first | exact Upd.here _ _ _ | apply Upd.there)))) | exact ES.auto); (first | exact rfl | exact ⟨rfl, rfl, rfl⟩); (first | (rintro _ _ ⟨rfl, rfl⟩) | (rintro _ _ ⟨g, rfl, rfl⟩) | (rintro _ _ ⟨A', c', rfl, rfl⟩)); (try refine ⟨SUB, ?_⟩)) | (refine GO ?_) | (refine GOE ?_; (first | (rintro _ _ ⟨rfl, rfl⟩) | (rintro _ _ ⟨g, rfl, rfl⟩) | (rintro _ _ ⟨A', c', rfl, rfl⟩))) | ((refine GO2 ?_ ?_) <;> intro h <;> (try (repeat (first | with_reducible (replace h := of_decide_eq_true h) | with_reducible (replace h := of_decide_eq_false h) | with_reducible (replace h := bnt h) | with_reducible (replace h := bnf h) | with_reducible (replace h := Int.not_lt.mp h) | with_reducible (replace h := Int.not_le.mp h) | with_reducible (replace h := band_dec h) | with_reducible (replace h := band_decF h) | with_reducible (replace h := bor_dec h) | with_reducible (replace h := bor_decF h)))) <;> (try (exfalso; first | contradiction | omega))) | ((with_reducible (first | apply TD_e2z | apply TD_e3z | apply TL_e | apply TD_e2 | apply TD_e3)); ((with_reducible apply ES_makeMap Hd.v); exact rfl); (first | exact rfl | exact ⟨rfl, rfl, rfl⟩); (rintro _ _ ⟨g, rfl, rfl⟩); (try refine ⟨SUB, ?_⟩)) | fail)
  obtain ⟨gm, rfl⟩ : ∃ x, x = g := ⟨_, rfl⟩
  refine T_loop (X := Nat × List (Int × Hd)) (fun x => [(9, .int .i64 (x.1 : Nat)), (8, .int .i64 cs.length), (7, .slice A cs.length c), (3, .map (some gm))])
    (fun x => [entMap Hd.v gm x.2, entInner intEnc 1 3 (x.2.map (·.2)) ((numD cs x.1).map (·.2))]) (fun x => x.1 ≤ cs.length ∧ x.2.map (·.1) = (numD cs x.1).map (·.1)) (fun x => cs.length - x.1) (0, []) ⟨by (try dsimp only); omega, rfl⟩ (by (repeat (first | exact SubE.nil _ | refine SubE.cons rfl ?_))) (fun w' hw => by
      show Mem _ w' [entMap Hd.v gm [], entInner intEnc 1 3 [] []]
      exact (hw.nilInner intEnc 1 3).sel (by (repeat (first | exact Sel.nil _ | (apply Sel.cons; (repeat (first | with_reducible exact Pick.here _ _ | with_reducible apply Pick.there))))))) ?_
  rintro ⟨k, H⟩ ⟨hk, hH⟩
  dsimp only at hk hH ⊢
  by_cases hkl : k < cs.length
  · obtain ⟨b, o, rfl, _⟩ := RdE.open hA (by omega)
    have hgd : cs.getD k default = cs[k] := by simp [hkl]
    have hnd : numD cs (k + 1) = addN (numD cs k) cs[k].thing k := by rw [numD, hgd]
    have hnl := numD_len cs k
    have hnr := numD_rows cs k
    have hHl : H.length = (numD cs k).length := by simpa using congrArg List.length hH
    repeat' (first
      | ((with_reducible refine T_cutAt (X := Nat) 4 (fun g => [(5, .pointer (some ⟨g, 0, none⟩)), (4, .int .i64 (k : Nat)), (9, .int .i64 (k : Nat)), (8, .int .i64 cs.length), (7, .slice (some ⟨b, o, none⟩) cs.length c), (3, .map (some gm))]) (fun g => [entBlk g 43 cs[k].enc.toArray, entMap Hd.v gm H, entInner intEnc 1 3 (H.map (·.2)) ((numD cs k).map (·.2))]) (fun _ => True) ?_ ?_))
      | ((first | with_reducible (first | apply TL_q | apply TD_q0 | apply TD_q1 | apply TD_q2 | apply TD_q3) | ((with_reducible (first | apply TD_q0y | apply TD_q1y)); exact rfl; exact rfl; (with_reducible exact rfl))); (first | ((with_reducible apply QS_lookH hlook); exact rfl; exact rfl; (first | ((repeat (first | with_reducible exact List.mem_cons_self | with_reducible apply List.mem_cons_of_mem)); done) | (repeat (first | exact List.Mem.head _ | apply List.Mem.tail)))) | exact QS.auto); exact rfl) | ((with_reducible (first | apply TD_e2z | apply TD_e3z | apply TL_e | apply TD_e2 | apply TD_e3)); (first | ((with_reducible apply ES_mapUpH); exact rfl; exact rfl; exact rfl; (first | ((repeat (first | with_reducible exact Upd.here _ _ _ | with_reducible apply Upd.there)); done) | (repeat (first | exact Upd.here _ _ _ | apply Upd.there)))) | exact ES.auto); (first | exact rfl | exact ⟨rfl, rfl, rfl⟩); (first | (rintro _ _ ⟨rfl, rfl⟩) | (rintro _ _ ⟨g, rfl, rfl⟩) | (rintro _ _ ⟨A', c', rfl, rfl⟩)); (try refine ⟨SUB, ?_⟩)) | (refine GO ?_) | (refine GOE ?_; (first | (rintro _ _ ⟨rfl, rfl⟩) | (rintro _ _ ⟨g, rfl, rfl⟩) | (rintro _ _ ⟨A', c', rfl, rfl⟩))) | ((refine GO2 ?_ ?_) <;> intro h <;> (try (repeat (first | with_reducible (replace h := of_decide_eq_true h) | with_reducible (replace h := of_decide_eq_false h) | with_reducible (replace h := bnt h) | with_reducible (replace h := bnf h) | with_reducible (replace h := Int.not_lt.mp h) | with_reducible (replace h := Int.not_le.mp h) | with_reducible (replace h := band_dec h) | with_reducible (replace h := band_decF h) | with_reducible (replace h := bor_dec h) | with_reducible (replace h := bor_decF h)))) <;> (try (exfalso; first | contradiction | omega))) | (apply At_cut g; exact trivial; ((repeat (first | exact SubE.nil _ | refine SubE.cons rfl ?_))); (intro w hw; exact hw)) | fail)
    rintro gc -
    generalize numD cs k = D at *
    cases hix : idxK (D.map (·.1)) cs[k].thing with
    | none =>
      have hlook : (lookM H cs[k].thing).getD hd0 = ⟨none, ([] : List Int).length, 0⟩ := by rw [lookM_idx, hH, hix]; rfl
      have hput : ∀ v, putM H cs[k].thing v = H ++ [(cs[k].thing, v)] := fun v => by rw [putM_idx, hH, hix]
      have hadd : addN D cs[k].thing k = D ++ [(cs[k].thing, [(k : Int)])] := by unfold addN; rw [putM_idx, lookM_idx, hix]; rfl
      refine T_mem (fun w' hw => hw.nilOwn intEnc 1 3) ?_
      repeat' (first | ((first | with_reducible (first | apply TL_q | apply TD_q0 | apply TD_q1 | apply TD_q2 | apply TD_q3) | ((with_reducible (first | apply TD_q0y | apply TD_q1y)); exact rfl; exact rfl; (with_reducible exact rfl))); (first | ((with_reducible apply QS_lookH hlook); exact rfl; exact rfl; (first | ((repeat (first | with_reducible exact List.mem_cons_self | with_reducible apply List.mem_cons_of_mem)); done) | (repeat (first | exact List.Mem.head _ | apply List.Mem.tail)))) | exact QS.auto); exact rfl) | ((with_reducible (first | apply TD_e2z | apply TD_e3z | apply TL_e | apply TD_e2 | apply TD_e3)); (first | ((with_reducible apply ES_mapUpH); exact rfl; exact rfl; exact rfl; (first | ((repeat (first | with_reducible exact Upd.here _ _ _ | with_reducible apply Upd.there)); done) | (repeat (first | exact Upd.here _ _ _ | apply Upd.there)))) | exact ES.auto); (first | exact rfl | exact ⟨rfl, rfl, rfl⟩); (first | (rintro _ _ ⟨rfl, rfl⟩) | (rintro _ _ ⟨g, rfl, rfl⟩) | (rintro _ _ ⟨A', c', rfl, rfl⟩)); (try refine ⟨SUB, ?_⟩)) | (refine GG ?_) | (refine GE ?_; (first | (rintro _ _ ⟨rfl, rfl⟩) | (rintro _ _ ⟨g, rfl, rfl⟩) | (rintro _ _ ⟨A', c', rfl, rfl⟩)); (try refine ⟨SUB, ?_⟩)) | ((refine GO2 ?_ ?_) <;> intro h <;> (try (repeat (first | with_reducible (replace h := of_decide_eq_true h) | with_reducible (replace h := of_decide_eq_false h) | with_reducible (replace h := bnt h) | with_reducible (replace h := bnf h) | with_reducible (replace h := Int.not_lt.mp h) | with_reducible (replace h := Int.not_le.mp h) | with_reducible (replace h := band_dec h) | with_reducible (replace h := band_decF h) | with_reducible (replace h := bor_dec h) | with_reducible (replace h := bor_decF h)))) <;> (try (exfalso; first | contradiction | omega))) | (refine GOF ?_ ?_) | ((with_reducible apply T_draw (id := 5) 9 (OT.seq [(0, 0), (0, 1), (0, 3), (0, 4), (0, 7), (1, 5), (1, 6)] (.fork (OT.seq [(2, 2), (2, 8), (3, 9), (3, 10)] .nil) (OT.seq [(2, 8)] (.fork (OT.seq [(2, 2), (3, 9), (3, 10)] .nil) (OT.seq [(3, 9), (3, 2), (3, 10)] .nil)))))); kernel_rfl; exact rfl; kernel_rfl; (repeat (first | with_reducible exact Blind.body | with_reducible apply Blind.seq | with_reducible apply Blind.block))) | ((with_reducible (first | apply TD_e2z | apply TD_e3z | apply TL_e | apply TD_e2 | apply TD_e3)); ((with_reducible apply ES_append1 (enc := intEnc) (xx := (k : Int))); exact rfl; exact rfl; (repeat (first | with_reducible exact List.mem_cons_self | with_reducible apply List.mem_cons_of_mem)); exact rfl; exact fun _ => rfl; exact fun _ => rfl; (intro A' c'; first | ((repeat (first | with_reducible exact Upd.here _ _ _ | with_reducible apply Upd.there)); done) | (repeat (first | exact Upd.here _ _ _ | apply Upd.there))); (focus (first | omega | (simp; done) | (simp; omega))); decide; exact rfl); (first | exact rfl | exact ⟨rfl, rfl, rfl⟩); (rintro _ _ ⟨A', c', rfl, rfl⟩); (try refine ⟨SUB, ?_⟩)) | fail)
      all_goals
        apply At_rounds (k + 1, H ++ [(cs[k].thing, (⟨A', ([] ++ [(k : Int)] : List Int).length, c'⟩ : Hd))])
        case hE => dsimp only; (repeat (first | exact SubE.nil _ | refine SubE.cons rfl ?_))
        case hS =>
          dsimp only
          rw [hnd, hadd, hput, List.map_append, List.map_append]
          show ∀ w', _ → Mem _ w' [_, entInner intEnc 1 3 (H.map (·.2) ++ [(⟨A', ([] ++ [(k : Int)] : List Int).length, c'⟩ : Hd)]) (D.map (·.2) ++ [([] ++ [(k : Int)] : List Int)])]
          intro w' hw
          have h1 := Mem.absorb (C := _) (Pick.there _ (Pick.here _ _)) (by first | ((repeat (first | with_reducible exact Upd.here _ _ _ | with_reducible apply Upd.there)); done) | (repeat (first | exact Upd.here _ _ _ | apply Upd.there))) hw
          exact h1.sel (by (repeat (first | exact Sel.nil _ | (apply Sel.cons; (repeat (first | with_reducible exact Pick.here _ _ | with_reducible apply Pick.there))))))
        case hμ => (try dsimp only); omega
        case hp => exact ⟨by (try dsimp only); omega, by dsimp only; rw [hnd, hadd, List.map_append, List.map_append, hH]; rfl⟩
    | some j =>
      have hja := idxK_at hix
      have hjl : j < D.length := by simpa using (List.getElem?_eq_some_iff.1 hja).1
      have hjH : j < H.length := by omega
      have hjK : H[j].1 = cs[k].thing := by
        rw [← hH] at hja
        simpa [hjH] using hja
      refine T_fact (fun w' hw => (hw.innerRd (enc := intEnc) (M := 1) (e := 3) (hs := H.map (·.2)) (rows := D.map (·.2)) (by first | ((repeat (first | with_reducible exact List.mem_cons_self | with_reducible apply List.mem_cons_of_mem)); done) | (repeat (first | exact List.Mem.head _ | apply List.Mem.tail))) (fun _ => rfl) (j := j) (by simpa using hjH) (by simpa using hjl)).1) ?_
      intro hn
      rw [List.getElem_map, List.getElem_map] at hn
      have hlook : (lookM H cs[k].thing).getD hd0 = ⟨H[j].2.a, D[j].2.length, H[j].2.c⟩ := by
        rw [lookM_idx, hH, hix, ← hn]
        simp [hjH]
      have hput : ∀ v, putM H cs[k].thing v = H.set j (cs[k].thing, v) := fun v => by rw [putM_idx, hH, hix]
      have hadd : addN D cs[k].thing k = D.set j (cs[k].thing, D[j].2 ++ [(k : Int)]) := by
        unfold addN; rw [putM_idx, lookM_idx, hix]; simp [hjl]
      have hrow := hnr j hjl
      refine T_mem (S' := [entOwn intEnc 1 3 H[j].2.a H[j].2.c D[j].2, entBlk gc 43 cs[k].enc.toArray, entMap Hd.v gm H, entInner intEnc 1 3 ((H.map (·.2)).set j hd0) ((D.map (·.2)).set j [])]) (fun w' hw => by
        have h1 := hw.takeRow (j := j) (hs := H.map (·.2)) (rows := D.map (·.2)) (by simpa using hjH) (by simpa using hjl) (by first | ((repeat (first | with_reducible exact Upd.here _ _ _ | with_reducible apply Upd.there)); done) | (repeat (first | exact Upd.here _ _ _ | apply Upd.there)))
        rw [List.getElem_map, List.getElem_map] at h1
        exact h1) ?_
      repeat' (first | ((first | with_reducible (first | apply TL_q | apply TD_q0 | apply TD_q1 | apply TD_q2 | apply TD_q3) | ((with_reducible (first | apply TD_q0y | apply TD_q1y)); exact rfl; exact rfl; (with_reducible exact rfl))); (first | ((with_reducible apply QS_lookH hlook); exact rfl; exact rfl; (first | ((repeat (first | with_reducible exact List.mem_cons_self | with_reducible apply List.mem_cons_of_mem)); done) | (repeat (first | exact List.Mem.head _ | apply List.Mem.tail)))) | exact QS.auto); exact rfl) | ((with_reducible (first | apply TD_e2z | apply TD_e3z | apply TL_e | apply TD_e2 | apply TD_e3)); (first | ((with_reducible apply ES_mapUpH); exact rfl; exact rfl; exact rfl; (first | ((repeat (first | with_reducible exact Upd.here _ _ _ | with_reducible apply Upd.there)); done) | (repeat (first | exact Upd.here _ _ _ | apply Upd.there)))) | exact ES.auto); (first | exact rfl | exact ⟨rfl, rfl, rfl⟩); (first | (rintro _ _ ⟨rfl, rfl⟩) | (rintro _ _ ⟨g, rfl, rfl⟩) | (rintro _ _ ⟨A', c', rfl, rfl⟩)); (try refine ⟨SUB, ?_⟩)) | (refine GG ?_) | (refine GE ?_; (first | (rintro _ _ ⟨rfl, rfl⟩) | (rintro _ _ ⟨g, rfl, rfl⟩) | (rintro _ _ ⟨A', c', rfl, rfl⟩)); (try refine ⟨SUB, ?_⟩)) | ((refine GO2 ?_ ?_) <;> intro h <;> (try (repeat (first | with_reducible (replace h := of_decide_eq_true h) | with_reducible (replace h := of_decide_eq_false h) | with_reducible (replace h := bnt h) | with_reducible (replace h := bnf h) | with_reducible (replace h := Int.not_lt.mp h) | with_reducible (replace h := Int.not_le.mp h) | with_reducible (replace h := band_dec h) | with_reducible (replace h := band_decF h) | with_reducible (replace h := bor_dec h) | with_reducible (replace h := bor_decF h)))) <;> (try (exfalso; first | contradiction | omega))) | (refine GOF ?_ ?_) | ((with_reducible apply T_draw (id := 5) 9 (OT.seq [(0, 0), (0, 1), (0, 3), (0, 4), (0, 7), (1, 5), (1, 6)] (.fork (OT.seq [(2, 2), (2, 8), (3, 9), (3, 10)] .nil) (OT.seq [(2, 8)] (.fork (OT.seq [(2, 2), (3, 9), (3, 10)] .nil) (OT.seq [(3, 9), (3, 2), (3, 10)] .nil)))))); kernel_rfl; exact rfl; kernel_rfl; (repeat (first | with_reducible exact Blind.body | with_reducible apply Blind.seq | with_reducible apply Blind.block))) | ((with_reducible (first | apply TD_e2z | apply TD_e3z | apply TL_e | apply TD_e2 | apply TD_e3)); ((with_reducible apply ES_append1 (enc := intEnc) (xx := (k : Int))); exact rfl; exact rfl; (repeat (first | with_reducible exact List.mem_cons_self | with_reducible apply List.mem_cons_of_mem)); exact rfl; exact fun _ => rfl; exact fun _ => rfl; (intro A' c'; first | ((repeat (first | with_reducible exact Upd.here _ _ _ | with_reducible apply Upd.there)); done) | (repeat (first | exact Upd.here _ _ _ | apply Upd.there))); (focus (first | omega | (simp; done) | (simp; omega))); decide; exact rfl); (first | exact rfl | exact ⟨rfl, rfl, rfl⟩); (rintro _ _ ⟨A', c', rfl, rfl⟩); (try refine ⟨SUB, ?_⟩)) | fail)
      all_goals
        apply At_rounds (k + 1, H.set j (cs[k].thing, (⟨A', (D[j].2 ++ [(k : Int)]).length, c'⟩ : Hd)))
        case hE => dsimp only; (repeat (first | exact SubE.nil _ | refine SubE.cons rfl ?_))
        case hS =>
          dsimp only
          rw [hnd, hadd, hput, List.map_set, List.map_set]
          intro w' hw
          have h1 := Mem.putRow (C := _) (j := j) (Pick.there _ (Pick.here _ _)) (by first | ((repeat (first | with_reducible exact Upd.here _ _ _ | with_reducible apply Upd.there)); done) | (repeat (first | exact Upd.here _ _ _ | apply Upd.there))) hw
          rw [List.set_set, List.set_set] at h1
          exact h1.sel (by (repeat (first | exact Sel.nil _ | (apply Sel.cons; (repeat (first | with_reducible exact Pick.here _ _ | with_reducible apply Pick.there))))))
        case hμ => (try dsimp only); omega
        case hp => exact ⟨by (try dsimp only); omega, by dsimp only; rw [hnd, hadd, List.map_set, List.map_set, hH]⟩
  · obtain rfl : k = cs.length := by omega
    repeat' (first | ((first | with_reducible (first | apply TL_q | apply TD_q0 | apply TD_q1 | apply TD_q2 | apply TD_q3) | ((with_reducible (first | apply TD_q0y | apply TD_q1y)); exact rfl; exact rfl; (with_reducible exact rfl))); (first | ((with_reducible apply QS_lookH hlook); exact rfl; exact rfl; (first | ((repeat (first | with_reducible exact List.mem_cons_self | with_reducible apply List.mem_cons_of_mem)); done) | (repeat (first | exact List.Mem.head _ | apply List.Mem.tail)))) | exact QS.auto); exact rfl) | ((with_reducible (first | apply TD_e2z | apply TD_e3z | apply TL_e | apply TD_e2 | apply TD_e3)); (first | ((with_reducible apply ES_mapUpH); exact rfl; exact rfl; exact rfl; (first | ((repeat (first | with_reducible exact Upd.here _ _ _ | with_reducible apply Upd.there)); done) | (repeat (first | exact Upd.here _ _ _ | apply Upd.there)))) | exact ES.auto); (first | exact rfl | exact ⟨rfl, rfl, rfl⟩); (first | (rintro _ _ ⟨rfl, rfl⟩) | (rintro _ _ ⟨g, rfl, rfl⟩) | (rintro _ _ ⟨A', c', rfl, rfl⟩)); (try refine ⟨SUB, ?_⟩)) | (refine GO ?_) | (refine GOE ?_; (first | (rintro _ _ ⟨rfl, rfl⟩) | (rintro _ _ ⟨g, rfl, rfl⟩) | (rintro _ _ ⟨A', c', rfl, rfl⟩))) | ((refine GO2 ?_ ?_) <;> intro h <;> (try (repeat (first | with_reducible (replace h := of_decide_eq_true h) | with_reducible (replace h := of_decide_eq_false h) | with_reducible (replace h := bnt h) | with_reducible (replace h := bnf h) | with_reducible (replace h := Int.not_lt.mp h) | with_reducible (replace h := Int.not_le.mp h) | with_reducible (replace h := band_dec h) | with_reducible (replace h := band_decF h) | with_reducible (replace h := bor_dec h) | with_reducible (replace h := bor_decF h)))) <;> (try (exfalso; first | contradiction | omega))) | fail)
    (refine At_ret Try.results108 rfl (fun w' hw => ?_))
    exact ⟨⟨(gm, H), hH⟩, rfl, hw.anyN 0⟩
end
end Go.Proofs.Ytbhjljnbjomnhaa

namespace Go.Proofs.Ytbhjljnbjomnhaa
open Go.RowKit

theorem idxK_none : ∀ {l : List Int} {k : Int}, idxK l k = none ↔ k ∉ l
  | [], k => by simp [idxK]
  | a :: l, k => by
    have ih := idxK_none (l := l) (k := k)
    unfold idxK
    by_cases e : k = a
    · simp [e]
    · rw [if_neg e]
      simp [e, ih]
theorem keys_put {α : Type} (D : List (Int × α)) (k : Int) (v : α) (h : (D.map (·.1)).Nodup) : ((putM D k v).map (·.1)).Nodup := by
  rw [putM_idx]
  cases hi : idxK (D.map (·.1)) k with
  | some j =>
    have hj := idxK_at hi
    rw [show (D.set j (k, v)).map (·.1) = D.map (·.1) from by
      rw [List.map_set]
      apply List.ext_getElem?
      intro q
      rw [List.getElem?_set]
      split
      · rename_i e; subst e
        split
        · exact hj.symm
        · rename_i h2
          rw [List.getElem?_eq_none (by omega)] at hj; cases hj
      · rfl]
    exact h
  | none =>
    have hn := idxK_none.1 hi
    rw [List.map_append, List.nodup_append]
    refine ⟨h, by simp, fun a ha b hb => ?_⟩
    simp only [List.map_cons, List.map_nil, List.mem_singleton] at hb
    subst hb
    intro e; subst e; exact hn ha
theorem look_of_mem {α : Type} : ∀ {D : List (Int × α)} {p : Int × α}, (D.map (·.1)).Nodup → p ∈ D → lookM D p.1 = some p.2
  | [], _, _, h => by simp at h
  | q :: D, p, hn, h => by
    rw [List.map_cons, List.nodup_cons] at hn
    unfold lookM
    rcases List.mem_cons.1 h with rfl | h
    · rw [if_pos rfl]
    · rw [if_neg (fun e => hn.1 (by rw [← e]; exact List.mem_map.2 ⟨p, h, rfl⟩))]
      exact look_of_mem hn.2 h
theorem mem_of_look {α : Type} : ∀ {D : List (Int × α)} {k : Int} {v : α}, lookM D k = some v → (k, v) ∈ D
  | [], _, _, h => by simp [lookM] at h
  | q :: D, k, v, h => by
    unfold lookM at h
    split at h
    · rename_i e; cases h; subst e; simp
    · exact List.mem_cons_of_mem _ (mem_of_look h)
theorem numD_keys (cs : List Cl) : ∀ k, ((numD cs k).map (·.1)).Nodup
  | 0 => by simp [numD]
  | k + 1 => keys_put _ _ _ (numD_keys cs k)
theorem atL_some {cs : List Cl} {t : Int} : ∀ {k}, atL cs t k ≠ [] → ∃ q, q < k ∧ (cs.getD q default).thing = t
  | 0, h => by simp [atL] at h
  | k + 1, h => by
    unfold atL at h
    split at h
    · rename_i e; exact ⟨k, by omega, e⟩
    · obtain ⟨q, hq, e⟩ := atL_some h; exact ⟨q, by omega, e⟩
def bigT (ts : List Int) (cs : List Cl) : Bool := decide (12 < cs.length) || (List.range ts.length).any fun t => decide (9 < (atL cs (t : Int) cs.length).length)
theorem big_row {ts : List Int} {cs : List Cl} (hth : ∀ q (h : q < cs.length), 0 ≤ cs[q].thing ∧ cs[q].thing < ts.length) {i : Nat} (hi : i < (numD cs cs.length).length) (h9 : 9 < (numD cs cs.length)[i].2.length) : bigT ts cs = true := by
  have hm := List.getElem_mem hi
  have hl := look_of_mem (numD_keys cs cs.length) hm
  rw [numD_look] at hl
  generalize (numD cs cs.length)[i] = p at *
  by_cases he : atL cs p.1 cs.length = []
  · rw [if_pos he] at hl; cases hl
  · rw [if_neg he] at hl
    obtain ⟨q, hq, ht⟩ := atL_some he
    have hg : cs.getD q default = cs[q] := by simp [hq]
    rw [hg] at ht
    obtain ⟨h1, h2⟩ := hth q hq
    rw [ht] at h1 h2
    unfold bigT
    rw [Bool.or_eq_true, List.any_eq_true]
    refine .inr ⟨p.1.toNat, List.mem_range.2 (by omega), ?_⟩
    rw [show ((p.1.toNat : Nat) : Int) = p.1 by omega, Option.some.inj hl]
    exact decide_eq_true h9
theorem big_none {ts : List Int} {cs : List Cl} (h12 : cs.length ≤ 12) (h : ∀ i (hi : i < (numD cs cs.length).length), (numD cs cs.length)[i].2.length ≤ 9) : bigT ts cs = false := by
  unfold bigT
  rw [Bool.or_eq_false_iff, List.any_eq_false]
  refine ⟨decide_eq_false (by omega), fun t _ => ?_⟩
  rw [decide_eq_true_eq]
  intro h9
  have hl := numD_look cs (t : Int) cs.length
  rw [if_neg (fun e => by rw [e] at h9; simp at h9)] at hl
  obtain ⟨i, hi, e⟩ := List.mem_iff_getElem.1 (mem_of_look hl)
  have := h i hi
  rw [e] at this
  dsimp only at this
  omega
def localS (ts : List Int) (l : List Ev) : List Cl × Int := if (callsR ts l).2.2 ≠ 0 then ([], (callsR ts l).2.2) else if bigT ts (callsR ts l).1 = true then ([], 2) else ((callsR ts l).1, 0)
theorem callsR_thing {ts : List Int} {l : List Ev} (h : (callsR ts l).2.2 = 0) : ∀ q (hq : q < (callsR ts l).1.length), 0 ≤ (callsR ts l).1[q].thing ∧ (callsR ts l).1[q].thing < ts.length := by
  obtain ⟨_, _, _, h4⟩ := callsR_inv h
  have hc := clsOk_st ts l l.length
  rw [← h4] at hc
  exact fun q hq => (hc.each q hq).thing
def leftV (n : Nat) (V : List Nat) : Nat := ((List.range n).filter fun i => !V.contains i).length
theorem leftV_lt {n i : Nat} {V : List Nat} (hi : i < n) (hn : i ∉ V) : leftV n (V ++ [i]) < leftV n V := by
  unfold leftV
  refine Go.filter_lt (fun j => !V.contains j) (fun j => !(V ++ [i]).contains j) (fun x hx => ?_) i (by simpa using hn) (by simp) _ (List.mem_range.2 hi)
  simp at hx ⊢
  exact fun h => hx.1 h
section
variable (A0 B0 : Option Addr) (c0 d0 : Nat) (ts : List Int) (l : List Ev) (w : World) (hts : ts.length ≤ 9223372036854775807) (hl : l.length ≤ 9223372036854775807) (hT : RdInt w A0 ts) (hA : RdEv w B0 l)
include hts hl hT hA
set_option maxRecDepth 100000 in
set_option maxHeartbeats 4000000 in
theorem localCheck_any : Calls Try.prog 53 #[.slice A0 ts.length c0, .slice B0 l.length d0] w fun e w' => ∃ A c, e = .returned (.tuple #[.slice A (localS ts l).1.length c, .int .i64 (localS ts l).2]) ∧ Own Cl.enc 7 43 w' w.heap.size (.slice A (localS ts l).1.length c) (localS ts l).1 ∧ Below w.heap.size w w' := by
  have h1 := fun w h1 h2 => callsCode_any A0 B0 c0 d0 ts l w hts hl h1 h2
  have hth := callsR_thing (ts := ts) (l := l)
  have h200 := callsR_len ts l
  unfold localS
  generalize callsR ts l = R at *
  obtain ⟨cs, at_, er⟩ := R
  dsimp only at h1 hth h200 ⊢
  have hnum := fun A c w' h => numbers_any A c cs w' h h200
  refine calls_T (S := []) [] Try.func53 rfl Try.ntmps53 (by simp) (Mem.nil _) ?_
  repeat' (first | ((first | with_reducible (first | apply TL_q | apply TD_q0 | apply TD_q1 | apply TD_q2 | apply TD_q3) | ((with_reducible (first | apply TD_q0y | apply TD_q1y)); exact rfl; exact rfl; (with_reducible exact rfl))); (first | ((with_reducible apply QS_entry hi); exact rfl; (first | ((repeat (first | with_reducible exact List.mem_cons_self | with_reducible apply List.mem_cons_of_mem)); done) | (repeat (first | exact List.Mem.head _ | apply List.Mem.tail)))) | exact QS.auto); exact rfl) | (refine GO ?_) | (refine GOE ?_; (first | (rintro _ _ ⟨rfl, rfl⟩) | (rintro _ _ ⟨g, rfl, rfl⟩) | (rintro _ _ ⟨A', c', rfl, rfl⟩))) | ((refine GO2 ?_ ?_) <;> intro h <;> (try (repeat (first | with_reducible (replace h := of_decide_eq_true h) | with_reducible (replace h := of_decide_eq_false h) | with_reducible (replace h := bnt h) | with_reducible (replace h := bnf h) | with_reducible (replace h := Int.not_lt.mp h) | with_reducible (replace h := Int.not_le.mp h) | with_reducible (replace h := band_dec h) | with_reducible (replace h := band_decF h) | with_reducible (replace h := bor_dec h) | with_reducible (replace h := bor_decF h)))) <;> (try (exfalso; first | contradiction | omega))) | ((with_reducible (first | apply TD_e2z | apply TD_e3z | apply TL_e | apply TD_e2 | apply TD_e3)); ((with_reducible apply ES_callOwn (f := 98)); exact rfl; (intro w hw; exact h1 w (hw.rd rfl hT) (hw.rd rfl hA)); exact rfl); (first | exact rfl | exact ⟨rfl, rfl, rfl⟩); (rintro _ _ ⟨A1, c1, rfl, rfl⟩); (try refine ⟨SUB, ?_⟩)) | ((with_reducible (first | apply TD_e2z | apply TD_e3z | apply TL_e | apply TD_e2 | apply TD_e3)); ((with_reducible apply ES_callNew (f := 108) (X := NumX cs) (fun x => .map (some x.1.1)) (fun x => [entMap Hd.v x.1.1 x.1.2, entInner intEnc 1 3 (x.1.2.map (·.2)) ((numD cs cs.length).map (·.2))])); exact rfl; (intro x; repeat (first | exact AppL.nil _ | apply AppL.cons)); (intro w hw; exact hnum _ _ w (hw.ownRd (by first | ((repeat (first | with_reducible exact List.mem_cons_self | with_reducible apply List.mem_cons_of_mem)); done) | (repeat (first | exact List.Mem.head _ | apply List.Mem.tail))) (fun _ => rfl))); exact rfl); (first | exact rfl | exact ⟨rfl, rfl, rfl⟩); (rintro _ _ ⟨x, rfl, rfl⟩); (try refine ⟨SUB, ?_⟩)) | fail)
  · (refine At_ret Try.results53 rfl (fun w' hw => ?_))
    rw [if_pos (by assumption)]
    exact ⟨none, 0, rfl, Own.nil _ _, hw.below0 rfl⟩
  · (refine At_ret Try.results53 rfl (fun w' hw => ?_))
    have h12 : (12 : Int) < cs.length := by assumption
    rw [if_neg (by simpa), if_pos (by unfold bigT; rw [decide_eq_true (by omega)]; rfl)]
    exact ⟨none, 0, rfl, Own.nil _ _, hw.below0 rfl⟩
  have he0 : er = 0 := by assumption
  have h12 : cs.length ≤ 12 := by omega
  obtain ⟨⟨gm, H⟩, hH⟩ := x
  dsimp only
  subst he0
  have hth := hth rfl
  have hHl : H.length = (numD cs cs.length).length := by simpa using congrArg List.length hH
  refine TL_fact (p := ∀ i (h1 : i < H.length) (h2 : i < (numD cs cs.length).length), H[i].2.n = (numD cs cs.length)[i].2.length) (fun w' hw i q1 q2 => ?_) ?_
  · have h3 := (hw.innerRd (enc := intEnc) (M := 1) (e := 3) (hs := H.map (·.2)) (rows := (numD cs cs.length).map (·.2)) (by first | ((repeat (first | with_reducible exact List.mem_cons_self | with_reducible apply List.mem_cons_of_mem)); done) | (repeat (first | exact List.Mem.head _ | apply List.Mem.tail))) (fun _ => rfl) (j := i) (by simpa using q1) (by simpa using q2)).1
    rw [List.getElem_map, List.getElem_map] at h3
    exact h3
  intro hn
  have hbig := fun i hi h9 => big_row hth (i := i) hi h9
  have hnone := fun h => big_none (ts := ts) h12 h
  have hr200 := numD_rows cs cs.length
  rw [if_neg (by simp)]
  clear hnum hH
  generalize numD cs cs.length = D at *
  refine TL_e (ES_range Hd.v H (T' := fun g => [entMapIt Hd.v gm g H [], entInner intEnc 1 3 (H.map (·.2)) (D.map (·.2)), entOwn Cl.enc 7 43 A1 c1 cs]) rfl (fun g => by first | ((repeat (first | with_reducible exact Upd.here _ _ _ | with_reducible apply Upd.there)); done) | (repeat (first | exact Upd.here _ _ _ | apply Upd.there))) rfl) rfl ?_
  rintro _ _ ⟨gi, rfl, rfl⟩
  repeat' (first | ((first | with_reducible (first | apply TL_q | apply TD_q0 | apply TD_q1 | apply TD_q2 | apply TD_q3) | ((with_reducible (first | apply TD_q0y | apply TD_q1y)); exact rfl; exact rfl; (with_reducible exact rfl))); (first | ((with_reducible apply QS_entry hi); exact rfl; (first | ((repeat (first | with_reducible exact List.mem_cons_self | with_reducible apply List.mem_cons_of_mem)); done) | (repeat (first | exact List.Mem.head _ | apply List.Mem.tail)))) | exact QS.auto); exact rfl) | (refine GO ?_) | (refine GOE ?_; (first | (rintro _ _ ⟨rfl, rfl⟩) | (rintro _ _ ⟨g, rfl, rfl⟩) | (rintro _ _ ⟨A', c', rfl, rfl⟩))) | ((refine GO2 ?_ ?_) <;> intro h <;> (try (repeat (first | with_reducible (replace h := of_decide_eq_true h) | with_reducible (replace h := of_decide_eq_false h) | with_reducible (replace h := bnt h) | with_reducible (replace h := bnf h) | with_reducible (replace h := Int.not_lt.mp h) | with_reducible (replace h := Int.not_le.mp h) | with_reducible (replace h := band_dec h) | with_reducible (replace h := band_decF h) | with_reducible (replace h := bor_dec h) | with_reducible (replace h := bor_decF h)))) <;> (try (exfalso; first | contradiction | omega))) | fail)
  refine T_loop (X := List Nat) (fun _ => [(28, .pointer (some ⟨gi, 0, none⟩)), (6, .slice A1 cs.length c1)]) (fun V => [entMapIt Hd.v gm gi H V, entInner intEnc 1 3 (H.map (·.2)) (D.map (·.2)), entOwn Cl.enc 7 43 A1 c1 cs])
    (fun V => ∀ i ∈ V, ∀ h : i < D.length, D[i].2.length ≤ 9) (fun V => leftV H.length V) [] (by simp) (by (repeat (first | exact SubE.nil _ | refine SubE.cons rfl ?_))) (fun w hw => hw) ?_
  intro V hV
  repeat' (first | (with_reducible apply T_seq) | (with_reducible apply T_region) | fail)
  refine TL_e (ES_next (T' := fun i => [entMapIt Hd.v gm gi H (V ++ [i]), entInner intEnc 1 3 (H.map (·.2)) (D.map (·.2)), entOwn Cl.enc 7 43 A1 c1 cs]) rfl (fun i => by first | ((repeat (first | with_reducible exact Upd.here _ _ _ | with_reducible apply Upd.there)); done) | (repeat (first | exact Upd.here _ _ _ | apply Upd.there))) rfl) rfl ?_
  rintro _ _ (⟨rfl, rfl, hall⟩ | ⟨i, hi, hnV, rfl, rfl⟩)
  · have hfin := hnone (fun i hi => hV i (hall i (by omega)) hi)
    rw [hfin, if_neg (by simp)]
    repeat' (first | ((first | with_reducible (first | apply TL_q | apply TD_q0 | apply TD_q1 | apply TD_q2 | apply TD_q3) | ((with_reducible (first | apply TD_q0y | apply TD_q1y)); exact rfl; exact rfl; (with_reducible exact rfl))); (first | ((with_reducible apply QS_entry hi); exact rfl; (first | ((repeat (first | with_reducible exact List.mem_cons_self | with_reducible apply List.mem_cons_of_mem)); done) | (repeat (first | exact List.Mem.head _ | apply List.Mem.tail)))) | exact QS.auto); exact rfl) | (refine GO ?_) | (refine GOE ?_; (first | (rintro _ _ ⟨rfl, rfl⟩) | (rintro _ _ ⟨g, rfl, rfl⟩) | (rintro _ _ ⟨A', c', rfl, rfl⟩))) | ((refine GO2 ?_ ?_) <;> intro h <;> (try (repeat (first | with_reducible (replace h := of_decide_eq_true h) | with_reducible (replace h := of_decide_eq_false h) | with_reducible (replace h := bnt h) | with_reducible (replace h := bnf h) | with_reducible (replace h := Int.not_lt.mp h) | with_reducible (replace h := Int.not_le.mp h) | with_reducible (replace h := band_dec h) | with_reducible (replace h := band_decF h) | with_reducible (replace h := bor_dec h) | with_reducible (replace h := bor_decF h)))) <;> (try (exfalso; first | contradiction | omega))) | fail)
    (refine At_ret Try.results53 rfl (fun w' hw => ?_))
    exact ⟨A1, c1, rfl, hw.ownOut rfl (by first | ((repeat (first | with_reducible exact List.mem_cons_self | with_reducible apply List.mem_cons_of_mem)); done) | (repeat (first | exact List.Mem.head _ | apply List.Mem.tail))), hw.below0 rfl⟩
  · have hni := hn i hi (by omega)
    have hDi : i < D.length := by omega
    have hri := hr200 i hDi
    repeat' (first | ((first | with_reducible (first | apply TL_q | apply TD_q0 | apply TD_q1 | apply TD_q2 | apply TD_q3) | ((with_reducible (first | apply TD_q0y | apply TD_q1y)); exact rfl; exact rfl; (with_reducible exact rfl))); (first | ((with_reducible apply QS_entry hi); exact rfl; (first | ((repeat (first | with_reducible exact List.mem_cons_self | with_reducible apply List.mem_cons_of_mem)); done) | (repeat (first | exact List.Mem.head _ | apply List.Mem.tail)))) | exact QS.auto); exact rfl) | (refine GO ?_) | (refine GOE ?_; (first | (rintro _ _ ⟨rfl, rfl⟩) | (rintro _ _ ⟨g, rfl, rfl⟩) | (rintro _ _ ⟨A', c', rfl, rfl⟩))) | ((refine GO2 ?_ ?_) <;> intro h <;> (try (repeat (first | with_reducible (replace h := of_decide_eq_true h) | with_reducible (replace h := of_decide_eq_false h) | with_reducible (replace h := bnt h) | with_reducible (replace h := bnf h) | with_reducible (replace h := Int.not_lt.mp h) | with_reducible (replace h := Int.not_le.mp h) | with_reducible (replace h := band_dec h) | with_reducible (replace h := band_decF h) | with_reducible (replace h := bor_dec h) | with_reducible (replace h := bor_decF h)))) <;> (try (exfalso; first | contradiction | omega))) | fail)
    · (refine At_ret Try.results53 rfl (fun w' hw => ?_))
      rw [if_pos (hbig i hDi (by omega))]
      exact ⟨none, 0, rfl, Own.nil _ _, hw.below0 rfl⟩
    · refine At_rounds (V ++ [i]) (fun q hq h => ?_) (leftV_lt hi hnV) (by (repeat (first | exact SubE.nil _ | refine SubE.cons rfl ?_))) (fun w hw => hw)
      rcases List.mem_append.1 hq with h1 | h1
      · exact hV q h1 h
      · simp only [List.mem_singleton] at h1
        subst h1
        omega
end
end Go.Proofs.Ytbhjljnbjomnhaa
