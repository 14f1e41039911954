/- Lemmas for the walks (Bits, RelN, Evq, Stq). No condition. -/
import Derived.Test.YtbhjljnbjomnhaaG01
import Derived.Laws.BitsAllLaws
import Derived.Test.YtbhjljnbjomnhaaG15
import Derived.Test.YtbhjljnbjomnhaaG08
import Derived.Test.YtbhjljnbjomnhaaG05
import Derived.Test.YtbhjljnbjomnhaaG14
set_option linter.unusedSimpArgs false
set_option linter.unusedVariables false
set_option linter.unusedSectionVars false
set_option linter.unnecessarySimpa false
namespace Go.Proofs.Ytbhjljnbjomnhaa
theorem upd_upd (f : Nat → Nat) (i a b : Nat) : upd (upd f i a) i b = upd f i b := by
  funext j; by_cases h : j = i <;> simp [upd, h]
theorem upd_same (f : Nat → Nat) (i a : Nat) : upd f i a i = a := by simp [upd]
theorem pow_lt_16 {m : Nat} (h : m < 16) : 2 ^ m < 65536 := by
  have := Nat.pow_lt_pow_right (a := 2) (by omega) h
  simpa using this
theorem bitsTo_lt_16 (p : Nat → Bool) {m : Nat} (h : m ≤ 16) : bitsTo p m < 65536 := by
  have h1 := bitsTo_lt p m
  have h2 := Nat.pow_le_pow_right (n := 2) (by omega) h
  have : (2 : Nat) ^ 16 = 65536 := by decide
  omega
theorem or_pow (p : Nat → Bool) (m : Nat) : bitsTo p m ||| 2 ^ m = bitsTo p m + 2 ^ m := by
  have := Nat.two_pow_add_eq_or_of_lt (bitsTo_lt p m) 1
  simp only [Nat.mul_one] at this
  rw [Nat.or_comm, ← this, Nat.add_comm]
theorem wrap_pow {m : Nat} (h : m < 16) : IntKind.u16.wrap (2 ^ m) = ((2 ^ m : Nat) : Int) := by
  have := pow_lt_16 h
  have e : ((2 : Int) ^ m) = ((2 ^ m : Nat) : Int) := by simp
  rw [IntKind.wrap_u16, e]
  generalize 2 ^ m = x at *
  omega
theorem or_bit (p : Nat → Bool) {m : Nat} (h : m < 16) (hp : p m = true) : bits BinOp.or IntKind.u16 (bitsTo p m : Nat) (IntKind.u16.wrap (2 ^ m)) = ((bitsTo p (m + 1) : Nat) : Int) := by
  rw [wrap_pow h, u16_or_nat _ _ (bitsTo_lt_16 p (by omega)) (pow_lt_16 h), or_pow]
  simp [bitsTo, hp]
theorem add_bit (p : Nat → Bool) {m : Nat} (h : m < 15) (hp : p m = true) : IntKind.u16.wrap ((bitsTo p m : Nat) + IntKind.u16.wrap (2 ^ m)) = ((bitsTo p (m + 1) : Nat) : Int) := by
  have := bitsTo_lt_16 p (m := m + 1) (by omega)
  rw [wrap_pow (by omega), IntKind.wrap_u16]
  simp only [bitsTo, hp, if_true] at this ⊢
  generalize 2 ^ m = x at *
  generalize bitsTo p m = y at *
  omega


end Go.Proofs.Ytbhjljnbjomnhaa

namespace Go.Proofs.Ytbhjljnbjomnhaa

def orP (P Q : Nat → Nat → Bool) (k m : Nat) (i j : Nat) : Bool := P i j || (Q i j && (decide (i < k) || (decide (i = k) && decide (j < m))))
def relN (R : Nat → Nat → Bool) (n : Nat) : Nat → Nat := fun i => if i < n then bitsTo (R i) n else 0
theorem bitsTo_same {p q : Nat → Bool} : ∀ {n : Nat}, (∀ j, j < n → p j = q j) → bitsTo p n = bitsTo q n
  | 0, _ => rfl
  | n + 1, h => by rw [bitsTo, bitsTo, bitsTo_same (fun j hj => h j (by omega)), h n (by omega)]
theorem bitsTo_off {p : Nat → Bool} : ∀ {n : Nat}, (∀ j, j < n → p j = false) → bitsTo p n = 0
  | 0, _ => rfl
  | n + 1, h => by rw [bitsTo, bitsTo_off (fun j hj => h j (by omega)), h n (by omega)]; rfl
theorem relN_congr {R R' : Nat → Nat → Bool} {n : Nat} (h : ∀ i j, i < n → j < n → R i j = R' i j) : relN R n = relN R' n := by
  funext i
  unfold relN
  by_cases hi : i < n
  · rw [if_pos hi, if_pos hi]; exact bitsTo_same fun j hj => h i j hi hj
  · rw [if_neg hi, if_neg hi]
theorem relN_0 (n : Nat) : relN (fun _ _ => false) n = fun _ => 0 := by
  funext i
  unfold relN
  split
  · exact bitsTo_off fun _ _ => rfl
  · rfl
theorem bitsTo_or {p q : Nat → Bool} {n m : Nat} (hm : m < n) (hq : ∀ j, j < n → q j = (p j || decide (j = m))) : bitsTo p n ||| 2 ^ m = bitsTo q n := by
  apply Nat.eq_of_testBit_eq
  intro j
  rw [Nat.testBit_or, bitsTo_testBit, bitsTo_testBit, Nat.testBit_two_pow]
  by_cases hj : j < n
  · rw [decide_eq_true hj, hq j hj]
    by_cases e : j = m
    · subst e; simp
    · rw [decide_eq_false e, decide_eq_false (fun h => e h.symm)]; simp
  · rw [decide_eq_false hj, decide_eq_false (show ¬ m = j by omega)]; rfl
theorem bitsTo_add {p q : Nat → Bool} {m : Nat} (hp : p m = false) : ∀ {n : Nat}, m < n → (∀ j, j < n → q j = (p j || decide (j = m))) → bitsTo p n + 2 ^ m = bitsTo q n
  | 0, h, _ => by omega
  | n + 1, hm, hq => by
    rw [bitsTo, bitsTo]
    have hn := hq n (by omega)
    by_cases e : n = m
    · subst e
      have h1 : bitsTo q n = bitsTo p n := bitsTo_same fun j hj => by rw [hq j (by omega), decide_eq_false (show ¬ j = n by omega)]; simp
      rw [h1, hn, hp, decide_eq_true rfl]; simp
    · have ih := bitsTo_add hp (n := n) (by omega) (fun j hj => hq j (by omega))
      rw [hn, decide_eq_false e, Bool.or_false]
      omega
section
variable {P Q : Nat → Nat → Bool} {n k m : Nat}
theorem orP_0 : orP P Q 0 0 = P := by
  funext i j
  unfold orP
  rw [decide_eq_false (show ¬ i < 0 by omega), decide_eq_false (show ¬ j < 0 by omega)]; simp
theorem relN_next : relN (orP P Q k n) n = relN (orP P Q (k + 1) 0) n := relN_congr fun i j hi hj => by
  unfold orP
  rw [decide_eq_true hj, decide_eq_false (show ¬ j < 0 by omega), Bool.and_true, Bool.and_false, Bool.or_false]
  congr 2
  rw [Bool.eq_iff_iff]; simp; omega
theorem relN_done : relN (orP P Q n 0) n = relN (fun i j => P i j || Q i j) n := relN_congr fun i j hi hj => by
  unfold orP
  rw [decide_eq_true hi]; simp
theorem orP_step (j : Nat) : orP P Q k (m + 1) k j = (orP P Q k m k j || (Q k m && decide (j = m))) := by
  unfold orP
  by_cases e : j = m
  · subst e
    rw [decide_eq_true (show j < j + 1 by omega), decide_eq_false (show ¬ j < j by omega)]; simp
  · rw [decide_eq_false e]
    have : decide (j < m + 1) = decide (j < m) := by rw [Bool.eq_iff_iff]; simp; omega
    rw [this]; simp
theorem orP_else {i : Nat} (h : i ≠ k) (m' j : Nat) : orP P Q k m i j = orP P Q k m' i j := by
  unfold orP; rw [decide_eq_false h]; simp
theorem relN_yes (hk : k < n) (hm : m < n) (h : Q k m = true) : upd (relN (orP P Q k m) n) k (relN (orP P Q k m) n k ||| 2 ^ m) = relN (orP P Q k (m + 1)) n := by
  funext i
  unfold upd relN
  by_cases e : i = k
  · subst e
    rw [if_pos rfl, if_pos hk, if_pos hk]
    exact bitsTo_or hm fun j _ => by rw [orP_step, h, Bool.true_and]
  · rw [if_neg e]
    split
    · exact bitsTo_same fun j _ => orP_else e _ _
    · rfl
theorem relN_add (hk : k < n) (hm : m < n) (h : Q k m = true) (hp : P k m = false) : upd (relN (orP P Q k m) n) k (relN (orP P Q k m) n k + 2 ^ m) = relN (orP P Q k (m + 1)) n := by
  funext i
  unfold upd relN
  by_cases e : i = k
  · subst e
    rw [if_pos rfl, if_pos hk, if_pos hk]
    exact bitsTo_add (by unfold orP; rw [hp]; simp) hm fun j _ => by rw [orP_step, h, Bool.true_and]
  · rw [if_neg e]
    split
    · exact bitsTo_same fun j _ => orP_else e _ _
    · rfl
theorem relN_no (h : Q k m = false) : relN (orP P Q k m) n = relN (orP P Q k (m + 1)) n := relN_congr fun i j hi hj => by
  by_cases e : i = k
  · subst e; rw [orP_step, h]; simp
  · exact orP_else e _ _
theorem relN_had (h : P k m = true) : relN (orP P Q k m) n = relN (orP P Q k (m + 1)) n := relN_congr fun i j hi hj => by
  by_cases e : i = k
  · subst e
    rw [orP_step]
    by_cases e2 : j = m
    · subst e2; unfold orP; rw [h]; simp
    · rw [decide_eq_false e2]; simp
  · exact orP_else e _ _
theorem relN_skip {m' : Nat} (hmm : m ≤ m') (h : ∀ j, m ≤ j → j < m' → Q k j = false) : relN (orP P Q k m) n = relN (orP P Q k m') n := relN_congr fun i j hi hj => by
  by_cases e : i = k
  · subst e
    unfold orP
    by_cases h1 : j < m
    · rw [decide_eq_true h1, decide_eq_true (show j < m' by omega)]
    · by_cases h2 : j < m'
      · rw [h j (by omega) h2]; simp
      · rw [decide_eq_false h1, decide_eq_false h2]
  · exact orP_else e _ _
end
theorem relN_lt (R : Nat → Nat → Bool) {n : Nat} (hn : n ≤ 16) (i : Nat) : relN R n i < 65536 := by
  unfold relN
  split
  · exact bitsTo_lt_16 _ hn
  · decide
theorem relN_lt_n (R : Nat → Nat → Bool) (n i : Nat) : relN R n i < 2 ^ n := by
  unfold relN
  split
  · exact bitsTo_lt _ _
  · exact Nat.pow_pos (by decide)
theorem relN_bit (R : Nat → Nat → Bool) (n i j : Nat) : (relN R n i).testBit j = (decide (i < n) && (decide (j < n) && R i j)) := by
  unfold relN
  by_cases h : i < n
  · rw [if_pos h, bitsTo_testBit, decide_eq_true h, Bool.true_and]
  · rw [if_neg h, decide_eq_false h]; simp
end Go.Proofs.Ytbhjljnbjomnhaa

namespace Go.Proofs.Ytbhjljnbjomnhaa
open Go.RowKit

/-! lists of events compared -/
def evEqB (x y : Ev) : Bool := decide (x.who = y.who) && (decide (x.thing = y.thing) && (decide (x.kind = y.kind) && decide (x.value = y.value)))
theorem evEqB_eq (x y : Ev) : evEqB x y = true ↔ x = y := by
  cases x; cases y
  simp [evEqB]
set_option maxRecDepth 40000 in
theorem run_neq_ev (x y : Ev) (w : World) : (binOp .neq 86 (.agg (Ev.enc x).toArray) (.agg (Ev.enc y).toArray)).run Try.prog w = .ok (.bool (!evEqB x y)) w := by
  obtain ⟨x1, x2, x3, x4⟩ := x
  obtain ⟨y1, y2, y3, y4⟩ := y
  rw [evCells, evCells, run_neq_struct]
  go_simp
  unfold evEqB
  repeat' split
  all_goals simp_all
theorem run_eqGuard_ev (op : BinOp) (x y : Operand) (xs ys : Array Value) (w : World) : (eqGuard op 86 x y (.agg xs) (.agg ys)).run Try.prog w = .ok () w :=
  run_eqGuard_agg w op _ x y xs ys Try.eqGuardType86
section
variable {C : Ctx} {E : Slots} {S : List Ent} {ty ty3 : Nat} {x y : Operand} (u v : Ev)
theorem QS_neqEv (hx : evo E x = some (.agg (Ev.enc u).toArray)) (hy : evo E y = some (.agg (Ev.enc v).toArray)) : QS Try.prog C E S (.binOp .neq 86 x y ty3) ty (.bool (!evEqB u v)) :=
  QS.of (fun a w ha _ => by
    have h2 := run_neq_ev u v w
    have hg := run_eqGuard_ev .neq x y (Ev.enc u).toArray (Ev.enc v).toArray w
    simp only [execOp, ha.evo hx, ha.evo hy, Sem.run_bind, hg, Result.andThen_ok, h2]
    simp)
end
set_option maxRecDepth 100000 in
set_option maxHeartbeats 2000000 in
theorem equalEv_any (A B : Option Addr) (c d : Nat) (l m : List Ev) (w : World) (hl : l.length ≤ 9223372036854775807) (hm : m.length ≤ 9223372036854775807) (hA : RdEv w A l) (hB : RdEv w B m) :
    Calls Try.prog 39 #[.slice A l.length c, .slice B m.length d] w fun e w' => e = .returned (.bool (decide (l = m))) ∧ Below w.heap.size w w' := by
  refine calls_T (S := []) [] Try.func39 rfl Try.ntmps39 (by simp) (Mem.nil _) ?_
  repeat' (first | ((first | with_reducible (first | apply TL_q | apply TD_q0 | apply TD_q1 | apply TD_q2 | apply TD_q3) | ((with_reducible (first | apply TD_q0y | apply TD_q1y)); exact rfl; exact rfl; (with_reducible exact rfl))); (first | exact QS.auto | ((with_reducible apply QS_neqEv); exact rfl; exact rfl)); exact rfl) | (refine GO ?_) | (refine GOE ?_; (first | (rintro _ _ ⟨rfl, rfl⟩) | (rintro _ _ ⟨g, rfl, rfl⟩) | (rintro _ _ ⟨A', c', rfl, rfl⟩))) | ((refine GO2 ?_ ?_) <;> intro h <;> (try (repeat (first | with_reducible (replace h := of_decide_eq_true h) | with_reducible (replace h := of_decide_eq_false h) | with_reducible (replace h := bnt h) | with_reducible (replace h := bnf h) | with_reducible (replace h := Int.not_lt.mp h) | with_reducible (replace h := Int.not_le.mp h) | with_reducible (replace h := band_dec h) | with_reducible (replace h := band_decF h) | with_reducible (replace h := bor_dec h) | with_reducible (replace h := bor_decF h)))) <;> (try (exfalso; first | contradiction | omega))) | fail)
  · (refine At_ret Try.results39 rfl (fun w' hw => ?_))
    rw [decide_eq_false (fun e => by subst e; omega)]
    exact ⟨rfl, hw.below0 rfl⟩
  have hlen : l.length = m.length := by omega
  refine T_loop (X := Nat) (fun k => [(13, .int .i64 (k : Nat)), (12, .int .i64 l.length), (1, .slice B m.length d), (0, .slice A l.length c)])
    (fun _ => []) (fun k => k ≤ l.length ∧ Hid (∀ j, j < k → l[j]? = m[j]?)) (fun k => l.length - k) 0 ⟨by omega, Lib.hid (by omega)⟩ (by (repeat (first | exact SubE.nil _ | refine SubE.cons rfl ?_))) (by exact SUBS) ?_
  rintro k ⟨hk, hall⟩
  by_cases hlt : k < l.length
  · obtain ⟨b, o, rfl, hb0⟩ := RdE.open hA (by omega)
    obtain ⟨b2, o2, rfl, hb2⟩ := RdE.open hB (by omega)
    have hlt2 : k < m.length := by omega
    have hev := evEqB_eq l[k] m[k]
    repeat' (first | ((first | with_reducible (first | apply TL_q | apply TD_q0 | apply TD_q1 | apply TD_q2 | apply TD_q3) | ((with_reducible (first | apply TD_q0y | apply TD_q1y)); exact rfl; exact rfl; (with_reducible exact rfl))); (first | exact QS.auto | ((with_reducible apply QS_neqEv); exact rfl; exact rfl)); exact rfl) | (refine GG ?_) | (refine GE ?_; (first | (rintro _ _ ⟨rfl, rfl⟩) | (rintro _ _ ⟨g, rfl, rfl⟩) | (rintro _ _ ⟨A', c', rfl, rfl⟩)); (try refine ⟨SUB, ?_⟩)) | ((refine GO2 ?_ ?_) <;> intro h <;> (try (repeat (first | with_reducible (replace h := of_decide_eq_true h) | with_reducible (replace h := of_decide_eq_false h) | with_reducible (replace h := bnt h) | with_reducible (replace h := bnf h) | with_reducible (replace h := Int.not_lt.mp h) | with_reducible (replace h := Int.not_le.mp h) | with_reducible (replace h := band_dec h) | with_reducible (replace h := band_decF h) | with_reducible (replace h := bor_dec h) | with_reducible (replace h := bor_decF h)))) <;> (try (exfalso; first | contradiction | omega))) | (refine GOF ?_ ?_) | ((with_reducible apply T_draw (id := 6) 1000 (OT.seq [(0, 0), (0, 1), (0, 2), (0, 4), (0, 5), (0, 6), (1, 3), (1, 7), (0, 8)] .nil)); kernel_rfl; exact rfl; kernel_rfl; (repeat (first | with_reducible exact Blind.body | with_reducible apply Blind.seq | with_reducible apply Blind.block))) | fail)
    · (refine At_ret Try.results39 rfl (fun w' hw => ?_))
      have hne : ¬ l[k] = m[k] := fun e => by
        have h1 : evEqB l[k] m[k] = false := by assumption
        rw [hev.2 e] at h1; cases h1
      rw [decide_eq_false (fun e => hne (by subst e; rfl))]
      exact ⟨rfl, hw.below0 rfl⟩
    · have he : l[k] = m[k] := hev.1 (by assumption)
      (refine At_rounds (k + 1) ?_ ?_ ?_ ?_; (exact ⟨by show k + 1 ≤ l.length; omega, Lib.hid (fun j hj => by
        by_cases e : j = k
        · subst e; rw [List.getElem?_eq_getElem hlt, List.getElem?_eq_getElem hlt2, he]
        · exact hall.out j (by omega))⟩); (omega); ((repeat (first | exact SubE.nil _ | refine SubE.cons rfl ?_))); (exact SUBS))
  · obtain rfl : k = l.length := by omega
    repeat' (first | ((first | with_reducible (first | apply TL_q | apply TD_q0 | apply TD_q1 | apply TD_q2 | apply TD_q3) | ((with_reducible (first | apply TD_q0y | apply TD_q1y)); exact rfl; exact rfl; (with_reducible exact rfl))); (first | exact QS.auto | ((with_reducible apply QS_neqEv); exact rfl; exact rfl)); exact rfl) | (refine GO ?_) | (refine GOE ?_; (first | (rintro _ _ ⟨rfl, rfl⟩) | (rintro _ _ ⟨g, rfl, rfl⟩) | (rintro _ _ ⟨A', c', rfl, rfl⟩))) | ((refine GO2 ?_ ?_) <;> intro h <;> (try (repeat (first | with_reducible (replace h := of_decide_eq_true h) | with_reducible (replace h := of_decide_eq_false h) | with_reducible (replace h := bnt h) | with_reducible (replace h := bnf h) | with_reducible (replace h := Int.not_lt.mp h) | with_reducible (replace h := Int.not_le.mp h) | with_reducible (replace h := band_dec h) | with_reducible (replace h := band_decF h) | with_reducible (replace h := bor_dec h) | with_reducible (replace h := bor_decF h)))) <;> (try (exfalso; first | contradiction | omega))) | fail)
    (refine At_ret Try.results39 rfl (fun w' hw => ?_))
    have he : l = m := by
      apply List.ext_getElem?
      intro j
      by_cases hj : j < l.length
      · exact hall.out j hj
      · rw [List.getElem?_eq_none (by omega), List.getElem?_eq_none (by omega)]
    rw [decide_eq_true he]
    exact ⟨rfl, hw.below0 rfl⟩
end Go.Proofs.Ytbhjljnbjomnhaa

namespace Go.Proofs.Ytbhjljnbjomnhaa
open Go.RowKit

def stpEqB (x y : Stp) : Bool := decide (x.call = y.call) && (decide (x.res = y.res))
theorem stpEqB_eq (x y : Stp) : stpEqB x y = true ↔ x = y := by
  cases x; cases y
  simp [stpEqB]
theorem stpCells (v : Stp) : Stp.enc v = [.int .i64 v.call, .int .i64 v.res] := rfl
set_option maxRecDepth 40000 in
theorem run_neq_stp (x y : Stp) (w : World) : (binOp .neq 39 (.agg (Stp.enc x).toArray) (.agg (Stp.enc y).toArray)).run Try.prog w = .ok (.bool (!stpEqB x y)) w := by
  obtain ⟨x1, x2⟩ := x
  obtain ⟨y1, y2⟩ := y
  rw [stpCells, stpCells, run_neq_struct]
  go_simp
  unfold stpEqB
  repeat' split
  all_goals simp_all
theorem run_eqGuard_stp (op : BinOp) (x y : Operand) (xs ys : Array Value) (w : World) : (eqGuard op 39 x y (.agg xs) (.agg ys)).run Try.prog w = .ok () w :=
  run_eqGuard_agg w op _ x y xs ys Try.eqGuardType39
section
variable {C : Ctx} {E : Slots} {S : List Ent} {ty ty3 : Nat} {x y : Operand} (u v : Stp)
theorem QS_neqStp (hx : evo E x = some (.agg (Stp.enc u).toArray)) (hy : evo E y = some (.agg (Stp.enc v).toArray)) : QS Try.prog C E S (.binOp .neq 39 x y ty3) ty (.bool (!stpEqB u v)) :=
  QS.of (fun a w ha _ => by
    have h2 := run_neq_stp u v w
    have hg := run_eqGuard_stp .neq x y (Stp.enc u).toArray (Stp.enc v).toArray w
    simp only [execOp, ha.evo hx, ha.evo hy, Sem.run_bind, hg, Result.andThen_ok, h2]
    simp)
end
set_option maxRecDepth 100000 in
set_option maxHeartbeats 2000000 in
theorem equalStp_any (A B : Option Addr) (c d : Nat) (l m : List Stp) (w : World) (hl : l.length ≤ 9223372036854775807) (hm : m.length ≤ 9223372036854775807) (hA : RdE Stp.enc 2 w A l) (hB : RdE Stp.enc 2 w B m) :
    Calls Try.prog 16 #[.slice A l.length c, .slice B m.length d] w fun e w' => e = .returned (.bool (decide (l = m))) ∧ Below w.heap.size w w' := by
  refine calls_T (S := []) [] Try.func16 rfl Try.ntmps16 (by simp) (Mem.nil _) ?_
  repeat' (first | ((first | with_reducible (first | apply TL_q | apply TD_q0 | apply TD_q1 | apply TD_q2 | apply TD_q3) | ((with_reducible (first | apply TD_q0y | apply TD_q1y)); exact rfl; exact rfl; (with_reducible exact rfl))); (first | exact QS.auto | ((with_reducible apply QS_neqStp); exact rfl; exact rfl)); exact rfl) | (refine GO ?_) | (refine GOE ?_; (first | (rintro _ _ ⟨rfl, rfl⟩) | (rintro _ _ ⟨g, rfl, rfl⟩) | (rintro _ _ ⟨A', c', rfl, rfl⟩))) | ((refine GO2 ?_ ?_) <;> intro h <;> (try (repeat (first | with_reducible (replace h := of_decide_eq_true h) | with_reducible (replace h := of_decide_eq_false h) | with_reducible (replace h := bnt h) | with_reducible (replace h := bnf h) | with_reducible (replace h := Int.not_lt.mp h) | with_reducible (replace h := Int.not_le.mp h) | with_reducible (replace h := band_dec h) | with_reducible (replace h := band_decF h) | with_reducible (replace h := bor_dec h) | with_reducible (replace h := bor_decF h)))) <;> (try (exfalso; first | contradiction | omega))) | fail)
  · (refine At_ret Try.results16 rfl (fun w' hw => ?_))
    rw [decide_eq_false (fun e => by subst e; omega)]
    exact ⟨rfl, hw.below0 rfl⟩
  have hlen : l.length = m.length := by omega
  refine T_loop (X := Nat) (fun k => [(13, .int .i64 (k : Nat)), (12, .int .i64 l.length), (1, .slice B m.length d), (0, .slice A l.length c)])
    (fun _ => []) (fun k => k ≤ l.length ∧ Hid (∀ j, j < k → l[j]? = m[j]?)) (fun k => l.length - k) 0 ⟨by omega, Lib.hid (by omega)⟩ (by (repeat (first | exact SubE.nil _ | refine SubE.cons rfl ?_))) (by exact SUBS) ?_
  rintro k ⟨hk, hall⟩
  by_cases hlt : k < l.length
  · obtain ⟨b, o, rfl, hb0⟩ := RdE.open hA (by omega)
    obtain ⟨b2, o2, rfl, hb2⟩ := RdE.open hB (by omega)
    have hlt2 : k < m.length := by omega
    have hev := stpEqB_eq l[k] m[k]
    repeat' (first | ((first | with_reducible (first | apply TL_q | apply TD_q0 | apply TD_q1 | apply TD_q2 | apply TD_q3) | ((with_reducible (first | apply TD_q0y | apply TD_q1y)); exact rfl; exact rfl; (with_reducible exact rfl))); (first | exact QS.auto | ((with_reducible apply QS_neqStp); exact rfl; exact rfl)); exact rfl) | (refine GG ?_) | (refine GE ?_; (first | (rintro _ _ ⟨rfl, rfl⟩) | (rintro _ _ ⟨g, rfl, rfl⟩) | (rintro _ _ ⟨A', c', rfl, rfl⟩)); (try refine ⟨SUB, ?_⟩)) | ((refine GO2 ?_ ?_) <;> intro h <;> (try (repeat (first | with_reducible (replace h := of_decide_eq_true h) | with_reducible (replace h := of_decide_eq_false h) | with_reducible (replace h := bnt h) | with_reducible (replace h := bnf h) | with_reducible (replace h := Int.not_lt.mp h) | with_reducible (replace h := Int.not_le.mp h) | with_reducible (replace h := band_dec h) | with_reducible (replace h := band_decF h) | with_reducible (replace h := bor_dec h) | with_reducible (replace h := bor_decF h)))) <;> (try (exfalso; first | contradiction | omega))) | (refine GOF ?_ ?_) | ((with_reducible apply T_draw (id := 6) 1000 (OT.seq [(0, 0), (0, 1), (0, 2), (0, 4), (0, 5), (0, 6), (1, 3), (1, 7), (0, 8)] .nil)); kernel_rfl; exact rfl; kernel_rfl; (repeat (first | with_reducible exact Blind.body | with_reducible apply Blind.seq | with_reducible apply Blind.block))) | fail)
    · (refine At_ret Try.results16 rfl (fun w' hw => ?_))
      have hne : ¬ l[k] = m[k] := fun e => by
        have h1 : stpEqB l[k] m[k] = false := by assumption
        rw [hev.2 e] at h1; cases h1
      rw [decide_eq_false (fun e => hne (by subst e; rfl))]
      exact ⟨rfl, hw.below0 rfl⟩
    · have he : l[k] = m[k] := hev.1 (by assumption)
      (refine At_rounds (k + 1) ?_ ?_ ?_ ?_; (exact ⟨by show k + 1 ≤ l.length; omega, Lib.hid (fun j hj => by
        by_cases e : j = k
        · subst e; rw [List.getElem?_eq_getElem hlt, List.getElem?_eq_getElem hlt2, he]
        · exact hall.out j (by omega))⟩); (omega); ((repeat (first | exact SubE.nil _ | refine SubE.cons rfl ?_))); (exact SUBS))
  · obtain rfl : k = l.length := by omega
    repeat' (first | ((first | with_reducible (first | apply TL_q | apply TD_q0 | apply TD_q1 | apply TD_q2 | apply TD_q3) | ((with_reducible (first | apply TD_q0y | apply TD_q1y)); exact rfl; exact rfl; (with_reducible exact rfl))); (first | exact QS.auto | ((with_reducible apply QS_neqStp); exact rfl; exact rfl)); exact rfl) | (refine GO ?_) | (refine GOE ?_; (first | (rintro _ _ ⟨rfl, rfl⟩) | (rintro _ _ ⟨g, rfl, rfl⟩) | (rintro _ _ ⟨A', c', rfl, rfl⟩))) | ((refine GO2 ?_ ?_) <;> intro h <;> (try (repeat (first | with_reducible (replace h := of_decide_eq_true h) | with_reducible (replace h := of_decide_eq_false h) | with_reducible (replace h := bnt h) | with_reducible (replace h := bnf h) | with_reducible (replace h := Int.not_lt.mp h) | with_reducible (replace h := Int.not_le.mp h) | with_reducible (replace h := band_dec h) | with_reducible (replace h := band_decF h) | with_reducible (replace h := bor_dec h) | with_reducible (replace h := bor_decF h)))) <;> (try (exfalso; first | contradiction | omega))) | fail)
    (refine At_ret Try.results16 rfl (fun w' hw => ?_))
    have he : l = m := by
      apply List.ext_getElem?
      intro j
      by_cases hj : j < l.length
      · exact hall.out j hj
      · rw [List.getElem?_eq_none (by omega), List.getElem?_eq_none (by omega)]
    rw [decide_eq_true he]
    exact ⟨rfl, hw.below0 rfl⟩
end Go.Proofs.Ytbhjljnbjomnhaa
