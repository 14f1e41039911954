/- Lemmas for the walks (Stq, Kinds). No condition. -/
import Derived.Test.YtbhjljnbjomnhaaG11
import Derived.Test.YtbhjljnbjomnhaaG09
import Derived.Test.YtbhjljnbjomnhaaG05
import Derived.Test.YtbhjljnbjomnhaaG08
import Derived.Test.YtbhjljnbjomnhaaG06
import Derived.Test.YtbhjljnbjomnhaaG07
set_option linter.unusedSimpArgs false
set_option linter.unusedVariables false
set_option linter.unusedSectionVars false
set_option linter.unnecessarySimpa false
namespace Go.Proofs.Ytbhjljnbjomnhaa
open Go.RowKit

def stpEqB (x y : Stp) : Bool := decide (x.call = y.call) && (decide (x.res = y.res))
theorem stpEqB_eq (x y : Stp) : stpEqB x y = true ↔ x = y := by
  cases x; cases y
  simp [stpEqB]
theorem stpCells (v : Stp) : Stp.enc v = [.int .i64 v.call, .int .i64 v.res] := rfl
set_option maxRecDepth 40000 in
theorem run_neq_stp (x y : Stp) (w : World) : (binOp .neq 39 (.agg (Stp.enc x).toArray) (.agg (Stp.enc y).toArray)).run Try.prog w = .ok (.bool (!stpEqB x y)) w := by
  obtain ⟨x1, x2⟩ := x
  obtain ⟨y1, y2⟩ := y
  rw [stpCells, stpCells, run_neq_struct]
  go_simp
  unfold stpEqB
  repeat' split
  all_goals simp_all
theorem run_eqGuard_stp (op : BinOp) (x y : Operand) (xs ys : Array Value) (w : World) : (eqGuard op 39 x y (.agg xs) (.agg ys)).run Try.prog w = .ok () w :=
  run_eqGuard_agg w op _ x y xs ys Try.eqGuardType39
section
variable {C : Ctx} {E : Slots} {S : List Ent} {ty ty3 : Nat} {x y : Operand} (u v : Stp)
theorem QS_neqStp (hx : evo E x = some (.agg (Stp.enc u).toArray)) (hy : evo E y = some (.agg (Stp.enc v).toArray)) : QS Try.prog C E S (.binOp .neq 39 x y ty3) ty (.bool (!stpEqB u v)) :=
  QS.of (fun a w ha _ => by
    have h2 := run_neq_stp u v w
    have hg := run_eqGuard_stp .neq x y (Stp.enc u).toArray (Stp.enc v).toArray w
    simp only [execOp, ha.evo hx, ha.evo hy, Sem.run_bind, hg, Result.andThen_ok, h2]
    simp)
end
set_option maxRecDepth 100000 in
set_option maxHeartbeats 2000000 in
theorem equalStp_any (A B : Option Addr) (c d : Nat) (l m : List Stp) (w : World) (hl : l.length ≤ 9223372036854775807) (hm : m.length ≤ 9223372036854775807) (hA : RdE Stp.enc 2 w A l) (hB : RdE Stp.enc 2 w B m) :
    Calls Try.prog 16 #[.slice A l.length c, .slice B m.length d] w fun e w' => e = .returned (.bool (decide (l = m))) ∧ Below w.heap.size w w' := by
  refine calls_T (S := []) [] Try.func16 rfl Try.ntmps16 (by simp) (Mem.nil _) ?_
  repeat' (first | ((first | with_reducible (first | apply TL_q | apply TD_q0 | apply TD_q1 | apply TD_q2 | apply TD_q3) | ((with_reducible (first | apply TD_q0y | apply TD_q1y)); exact rfl; exact rfl; (with_reducible exact rfl))); (first | exact QS.auto | ((with_reducible apply QS_neqStp); exact rfl; exact rfl)); exact rfl) | (refine GO ?_) | (refine GOE ?_; (first | (rintro _ _ ⟨rfl, rfl⟩) | (rintro _ _ ⟨g, rfl, rfl⟩) | (rintro _ _ ⟨A', c', rfl, rfl⟩))) | ((refine GO2 ?_ ?_) <;> intro h <;> (try (repeat (first | with_reducible (replace h := of_decide_eq_true h) | with_reducible (replace h := of_decide_eq_false h) | with_reducible (replace h := bnt h) | with_reducible (replace h := bnf h) | with_reducible (replace h := Int.not_lt.mp h) | with_reducible (replace h := Int.not_le.mp h) | with_reducible (replace h := band_dec h) | with_reducible (replace h := band_decF h) | with_reducible (replace h := bor_dec h) | with_reducible (replace h := bor_decF h)))) <;> (try (exfalso; first | contradiction | omega))) | fail)
  · (refine At_ret Try.results16 rfl (fun w' hw => ?_))
    rw [decide_eq_false (fun e => by subst e; omega)]
    exact ⟨rfl, hw.below0 rfl⟩
  have hlen : l.length = m.length := by omega
  refine T_loop (X := Nat) (fun k => [(13, .int .i64 (k : Nat)), (12, .int .i64 l.length), (1, .slice B m.length d), (0, .slice A l.length c)])
    (fun _ => []) (fun k => k ≤ l.length ∧ Hid (∀ j, j < k → l[j]? = m[j]?)) (fun k => l.length - k) 0 ⟨by omega, Lib.hid (by omega)⟩ (by (repeat (first | exact SubE.nil _ | refine SubE.cons rfl ?_))) (by exact SUBS) ?_
  rintro k ⟨hk, hall⟩
  by_cases hlt : k < l.length
  · obtain ⟨b, o, rfl, hb0⟩ := RdE.open hA (by omega)
    obtain ⟨b2, o2, rfl, hb2⟩ := RdE.open hB (by omega)
    have hlt2 : k < m.length := by omega
    have hev := stpEqB_eq l[k] m[k]
    repeat' (first | ((first | with_reducible (first | apply TL_q | apply TD_q0 | apply TD_q1 | apply TD_q2 | apply TD_q3) | ((with_reducible (first | apply TD_q0y | apply TD_q1y)); exact rfl; exact rfl; (with_reducible exact rfl))); (first | exact QS.auto | ((with_reducible apply QS_neqStp); exact rfl; exact rfl)); exact rfl) | (refine GG ?_) | (refine GE ?_; (first | (rintro _ _ ⟨rfl, rfl⟩) | (rintro _ _ ⟨g, rfl, rfl⟩) | (rintro _ _ ⟨A', c', rfl, rfl⟩)); (try refine ⟨SUB, ?_⟩)) | ((refine GO2 ?_ ?_) <;> intro h <;> (try (repeat (first | with_reducible (replace h := of_decide_eq_true h) | with_reducible (replace h := of_decide_eq_false h) | with_reducible (replace h := bnt h) | with_reducible (replace h := bnf h) | with_reducible (replace h := Int.not_lt.mp h) | with_reducible (replace h := Int.not_le.mp h) | with_reducible (replace h := band_dec h) | with_reducible (replace h := band_decF h) | with_reducible (replace h := bor_dec h) | with_reducible (replace h := bor_decF h)))) <;> (try (exfalso; first | contradiction | omega))) | (refine GOF ?_ ?_) | ((with_reducible apply T_draw (id := 6) 1000 (OT.seq [(0, 0), (0, 1), (0, 2), (0, 4), (0, 5), (0, 6), (1, 3), (1, 7), (0, 8)] .nil)); kernel_rfl; exact rfl; kernel_rfl; (repeat (first | with_reducible exact Blind.body | with_reducible apply Blind.seq | with_reducible apply Blind.block))) | fail)
    · (refine At_ret Try.results16 rfl (fun w' hw => ?_))
      have hne : ¬ l[k] = m[k] := fun e => by
        have h1 : stpEqB l[k] m[k] = false := by assumption
        rw [hev.2 e] at h1; cases h1
      rw [decide_eq_false (fun e => hne (by subst e; rfl))]
      exact ⟨rfl, hw.below0 rfl⟩
    · have he : l[k] = m[k] := hev.1 (by assumption)
      (refine At_rounds (k + 1) ?_ ?_ ?_ ?_; (exact ⟨by show k + 1 ≤ l.length; omega, Lib.hid (fun j hj => by
        by_cases e : j = k
        · subst e; rw [List.getElem?_eq_getElem hlt, List.getElem?_eq_getElem hlt2, he]
        · exact hall.out j (by omega))⟩); (omega); ((repeat (first | exact SubE.nil _ | refine SubE.cons rfl ?_))); (exact SUBS))
  · obtain rfl : k = l.length := by omega
    repeat' (first | ((first | with_reducible (first | apply TL_q | apply TD_q0 | apply TD_q1 | apply TD_q2 | apply TD_q3) | ((with_reducible (first | apply TD_q0y | apply TD_q1y)); exact rfl; exact rfl; (with_reducible exact rfl))); (first | exact QS.auto | ((with_reducible apply QS_neqStp); exact rfl; exact rfl)); exact rfl) | (refine GO ?_) | (refine GOE ?_; (first | (rintro _ _ ⟨rfl, rfl⟩) | (rintro _ _ ⟨g, rfl, rfl⟩) | (rintro _ _ ⟨A', c', rfl, rfl⟩))) | ((refine GO2 ?_ ?_) <;> intro h <;> (try (repeat (first | with_reducible (replace h := of_decide_eq_true h) | with_reducible (replace h := of_decide_eq_false h) | with_reducible (replace h := bnt h) | with_reducible (replace h := bnf h) | with_reducible (replace h := Int.not_lt.mp h) | with_reducible (replace h := Int.not_le.mp h) | with_reducible (replace h := band_dec h) | with_reducible (replace h := band_decF h) | with_reducible (replace h := bor_dec h) | with_reducible (replace h := bor_decF h)))) <;> (try (exfalso; first | contradiction | omega))) | fail)
    (refine At_ret Try.results16 rfl (fun w' hw => ?_))
    have he : l = m := by
      apply List.ext_getElem?
      intro j
      by_cases hj : j < l.length
      · exact hall.out j hj
      · rw [List.getElem?_eq_none (by omega), List.getElem?_eq_none (by omega)]
    rw [decide_eq_true he]
    exact ⟨rfl, hw.below0 rfl⟩
end Go.Proofs.Ytbhjljnbjomnhaa

namespace Go.Proofs.Ytbhjljnbjomnhaa
open Go.RowKit
theorem between_C (a b c : Int) (w : World) : Calls Try.prog 14 #[.int .i64 a, .int .i64 b, .int .i64 c] w fun e w' => e = .returned (.bool (decide (b ≤ a) && decide (a ≤ c))) ∧ Below w.heap.size w w' :=
  Calls.same_below (between_any a b c w)
set_option maxRecDepth 100000 in
theorem kinds_C (t : Int) (w : World) : Calls Try.prog 63 #[.int .i64 t] w fun e w' => ∃ A c, e = .returned (.slice A (kindsL t).length c) ∧ Own intEnc 1 3 w' w.heap.size (.slice A (kindsL t).length c) (kindsL t) ∧ Below w.heap.size w w' := by
  refine calls_T (S := []) [] Try.func63 rfl Try.ntmps63 (by simp) (Mem.nil _) ?_
  repeat' (first | (refine GO ?_) | (refine GOE ?_; (first | (rintro _ _ ⟨rfl, rfl⟩) | (rintro _ _ ⟨g, rfl, rfl⟩) | (rintro _ _ ⟨A', c', rfl, rfl⟩))) | ((refine GO2 ?_ ?_) <;> intro h <;> (try (repeat (first | with_reducible (replace h := of_decide_eq_true h) | with_reducible (replace h := of_decide_eq_false h) | with_reducible (replace h := bnt h) | with_reducible (replace h := bnf h) | with_reducible (replace h := Int.not_lt.mp h) | with_reducible (replace h := Int.not_le.mp h) | with_reducible (replace h := band_dec h) | with_reducible (replace h := band_decF h) | with_reducible (replace h := bor_dec h) | with_reducible (replace h := bor_decF h)))) <;> (try (exfalso; first | contradiction | omega))))
  all_goals (refine At_ret Try.results63 rfl (fun w' hw => ?_))
  all_goals try subst_vars
  all_goals first
    | exact ⟨_, _, rfl, hw.blkOut (enc := intEnc) [1, 2] rfl (by first | ((repeat (first | with_reducible exact List.mem_cons_self | with_reducible apply List.mem_cons_of_mem)); done) | (repeat (first | exact List.Mem.head _ | apply List.Mem.tail))) rfl (fun _ => rfl) (by decide), hw.below0 rfl⟩
    | exact ⟨_, _, rfl, hw.blkOut (enc := intEnc) [3, 4] rfl (by first | ((repeat (first | with_reducible exact List.mem_cons_self | with_reducible apply List.mem_cons_of_mem)); done) | (repeat (first | exact List.Mem.head _ | apply List.Mem.tail))) rfl (fun _ => rfl) (by decide), hw.below0 rfl⟩
    | exact ⟨_, _, rfl, hw.blkOut (enc := intEnc) [5, 6] rfl (by first | ((repeat (first | with_reducible exact List.mem_cons_self | with_reducible apply List.mem_cons_of_mem)); done) | (repeat (first | exact List.Mem.head _ | apply List.Mem.tail))) rfl (fun _ => rfl) (by decide), hw.below0 rfl⟩
    | exact ⟨_, _, rfl, hw.blkOut (enc := intEnc) [7, 8, 9] rfl (by first | ((repeat (first | with_reducible exact List.mem_cons_self | with_reducible apply List.mem_cons_of_mem)); done) | (repeat (first | exact List.Mem.head _ | apply List.Mem.tail))) rfl (fun _ => rfl) (by decide), hw.below0 rfl⟩
    | exact ⟨_, _, rfl, hw.blkOut (enc := intEnc) [10] rfl (by first | ((repeat (first | with_reducible exact List.mem_cons_self | with_reducible apply List.mem_cons_of_mem)); done) | (repeat (first | exact List.Mem.head _ | apply List.Mem.tail))) rfl (fun _ => rfl) (by decide), hw.below0 rfl⟩
    | (have e : kindsL t = [] := by simp [kindsL, *]
       rw [e]; exact ⟨none, 0, rfl, Own.nil _ _, hw.below0 rfl⟩)
theorem kindsC_len (t : Int) : (kindsL t).length ≤ 9223372036854775807 := by
  unfold kindsL
  repeat' split
  all_goals decide
theorem fits_C (t k : Int) (w : World) : Calls Try.prog 94 #[.int .i64 t, .int .i64 k] w fun e w' => e = .returned (.bool ((kindsL t).contains k)) ∧ Below w.heap.size w w' :=
  (Calls.same_below (fits_any t k w)).mono fun e w' h => by rw [← typeF_kinds]; exact h
theorem argument_C (k n : Int) (w : World) : Calls Try.prog 95 #[.int .i64 k, .int .i64 n] w fun e w' => e = .returned (.bool (argB k n)) ∧ Below w.heap.size w w' :=
  Calls.same_below (argument_any k n w)
end Go.Proofs.Ytbhjljnbjomnhaa
