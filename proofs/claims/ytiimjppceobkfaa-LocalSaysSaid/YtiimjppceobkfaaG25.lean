/- Lemmas for the walks (RelN, Ahc, SeaB). No condition. -/
import Derived.Test.YtiimjppceobkfaaG21
import Derived.Test.YtiimjppceobkfaaG16
import Derived.Test.YtiimjppceobkfaaG05
import Derived.Test.YtiimjppceobkfaaG15
import Derived.Test.YtiimjppceobkfaaG24
set_option linter.unusedSimpArgs false
set_option linter.unusedVariables false
set_option linter.unusedSectionVars false
set_option linter.unnecessarySimpa false
namespace Go.Proofs.Ytiimjppceobkfaa

def orP (P Q : Nat → Nat → Bool) (k m : Nat) (i j : Nat) : Bool := P i j || (Q i j && (decide (i < k) || (decide (i = k) && decide (j < m))))
def relN (R : Nat → Nat → Bool) (n : Nat) : Nat → Nat := fun i => if i < n then bitsTo (R i) n else 0
theorem bitsTo_same {p q : Nat → Bool} : ∀ {n : Nat}, (∀ j, j < n → p j = q j) → bitsTo p n = bitsTo q n
  | 0, _ => rfl
  | n + 1, h => by rw [bitsTo, bitsTo, bitsTo_same (fun j hj => h j (by omega)), h n (by omega)]
theorem bitsTo_off {p : Nat → Bool} : ∀ {n : Nat}, (∀ j, j < n → p j = false) → bitsTo p n = 0
  | 0, _ => rfl
  | n + 1, h => by rw [bitsTo, bitsTo_off (fun j hj => h j (by omega)), h n (by omega)]; rfl
theorem relN_congr {R R' : Nat → Nat → Bool} {n : Nat} (h : ∀ i j, i < n → j < n → R i j = R' i j) : relN R n = relN R' n := by
  funext i
  unfold relN
  by_cases hi : i < n
  · rw [if_pos hi, if_pos hi]; exact bitsTo_same fun j hj => h i j hi hj
  · rw [if_neg hi, if_neg hi]
theorem relN_0 (n : Nat) : relN (fun _ _ => false) n = fun _ => 0 := by
  funext i
  unfold relN
  split
  · exact bitsTo_off fun _ _ => rfl
  · rfl
theorem bitsTo_or {p q : Nat → Bool} {n m : Nat} (hm : m < n) (hq : ∀ j, j < n → q j = (p j || decide (j = m))) : bitsTo p n ||| 2 ^ m = bitsTo q n := by
  apply Nat.eq_of_testBit_eq
  intro j
  rw [Nat.testBit_or, bitsTo_testBit, bitsTo_testBit, Nat.testBit_two_pow]
  by_cases hj : j < n
  · rw [decide_eq_true hj, hq j hj]
    by_cases e : j = m
    · subst e; simp
    · rw [decide_eq_false e, decide_eq_false (fun h => e h.symm)]; simp
  · rw [decide_eq_false hj, decide_eq_false (show ¬ m = j by omega)]; rfl
theorem bitsTo_add {p q : Nat → Bool} {m : Nat} (hp : p m = false) : ∀ {n : Nat}, m < n → (∀ j, j < n → q j = (p j || decide (j = m))) → bitsTo p n + 2 ^ m = bitsTo q n
  | 0, h, _ => by omega
  | n + 1, hm, hq => by
    rw [bitsTo, bitsTo]
    have hn := hq n (by omega)
    by_cases e : n = m
    · subst e
      have h1 : bitsTo q n = bitsTo p n := bitsTo_same fun j hj => by rw [hq j (by omega), decide_eq_false (show ¬ j = n by omega)]; simp
      rw [h1, hn, hp, decide_eq_true rfl]; simp
    · have ih := bitsTo_add hp (n := n) (by omega) (fun j hj => hq j (by omega))
      rw [hn, decide_eq_false e, Bool.or_false]
      omega
section
variable {P Q : Nat → Nat → Bool} {n k m : Nat}
theorem orP_0 : orP P Q 0 0 = P := by
  funext i j
  unfold orP
  rw [decide_eq_false (show ¬ i < 0 by omega), decide_eq_false (show ¬ j < 0 by omega)]; simp
theorem relN_next : relN (orP P Q k n) n = relN (orP P Q (k + 1) 0) n := relN_congr fun i j hi hj => by
  unfold orP
  rw [decide_eq_true hj, decide_eq_false (show ¬ j < 0 by omega), Bool.and_true, Bool.and_false, Bool.or_false]
  congr 2
  rw [Bool.eq_iff_iff]; simp; omega
theorem relN_done : relN (orP P Q n 0) n = relN (fun i j => P i j || Q i j) n := relN_congr fun i j hi hj => by
  unfold orP
  rw [decide_eq_true hi]; simp
theorem orP_step (j : Nat) : orP P Q k (m + 1) k j = (orP P Q k m k j || (Q k m && decide (j = m))) := by
  unfold orP
  by_cases e : j = m
  · subst e
    rw [decide_eq_true (show j < j + 1 by omega), decide_eq_false (show ¬ j < j by omega)]; simp
  · rw [decide_eq_false e]
    have : decide (j < m + 1) = decide (j < m) := by rw [Bool.eq_iff_iff]; simp; omega
    rw [this]; simp
theorem orP_else {i : Nat} (h : i ≠ k) (m' j : Nat) : orP P Q k m i j = orP P Q k m' i j := by
  unfold orP; rw [decide_eq_false h]; simp
theorem relN_yes (hk : k < n) (hm : m < n) (h : Q k m = true) : upd (relN (orP P Q k m) n) k (relN (orP P Q k m) n k ||| 2 ^ m) = relN (orP P Q k (m + 1)) n := by
  funext i
  unfold upd relN
  by_cases e : i = k
  · subst e
    rw [if_pos rfl, if_pos hk, if_pos hk]
    exact bitsTo_or hm fun j _ => by rw [orP_step, h, Bool.true_and]
  · rw [if_neg e]
    split
    · exact bitsTo_same fun j _ => orP_else e _ _
    · rfl
theorem relN_add (hk : k < n) (hm : m < n) (h : Q k m = true) (hp : P k m = false) : upd (relN (orP P Q k m) n) k (relN (orP P Q k m) n k + 2 ^ m) = relN (orP P Q k (m + 1)) n := by
  funext i
  unfold upd relN
  by_cases e : i = k
  · subst e
    rw [if_pos rfl, if_pos hk, if_pos hk]
    exact bitsTo_add (by unfold orP; rw [hp]; simp) hm fun j _ => by rw [orP_step, h, Bool.true_and]
  · rw [if_neg e]
    split
    · exact bitsTo_same fun j _ => orP_else e _ _
    · rfl
theorem relN_no (h : Q k m = false) : relN (orP P Q k m) n = relN (orP P Q k (m + 1)) n := relN_congr fun i j hi hj => by
  by_cases e : i = k
  · subst e; rw [orP_step, h]; simp
  · exact orP_else e _ _
theorem relN_had (h : P k m = true) : relN (orP P Q k m) n = relN (orP P Q k (m + 1)) n := relN_congr fun i j hi hj => by
  by_cases e : i = k
  · subst e
    rw [orP_step]
    by_cases e2 : j = m
    · subst e2; unfold orP; rw [h]; simp
    · rw [decide_eq_false e2]; simp
  · exact orP_else e _ _
theorem relN_skip {m' : Nat} (hmm : m ≤ m') (h : ∀ j, m ≤ j → j < m' → Q k j = false) : relN (orP P Q k m) n = relN (orP P Q k m') n := relN_congr fun i j hi hj => by
  by_cases e : i = k
  · subst e
    unfold orP
    by_cases h1 : j < m
    · rw [decide_eq_true h1, decide_eq_true (show j < m' by omega)]
    · by_cases h2 : j < m'
      · rw [h j (by omega) h2]; simp
      · rw [decide_eq_false h1, decide_eq_false h2]
  · exact orP_else e _ _
end
theorem relN_lt (R : Nat → Nat → Bool) {n : Nat} (hn : n ≤ 16) (i : Nat) : relN R n i < 65536 := by
  unfold relN
  split
  · exact bitsTo_lt_16 _ hn
  · decide
theorem relN_lt_n (R : Nat → Nat → Bool) (n i : Nat) : relN R n i < 2 ^ n := by
  unfold relN
  split
  · exact bitsTo_lt _ _
  · exact Nat.pow_pos (by decide)
theorem relN_bit (R : Nat → Nat → Bool) (n i j : Nat) : (relN R n i).testBit j = (decide (i < n) && (decide (j < n) && R i j)) := by
  unfold relN
  by_cases h : i < n
  · rw [if_pos h, bitsTo_testBit, decide_eq_true h, Bool.true_and]
  · rw [if_neg h, decide_eq_false h]; simp
end Go.Proofs.Ytiimjppceobkfaa

namespace Go.Proofs.Ytiimjppceobkfaa
open Go.RowKit

/-! who was answered ahead of whose call -/
def aheadP (cs : List Cl) (i j : Nat) : Bool := !decide ((cs.getD i default).to = -1) && decide ((cs.getD i default).to < (cs.getD j default).from_)
theorem clD {cs : List Cl} {i : Nat} (h : i < cs.length) : cs.getD i default = cs[i] := by simp [h]
def relAhead (cs : List Cl) : Nat → Nat := relN (aheadP cs) cs.length
theorem relAhead_done (cs : List Cl) : relN (fun i j => (fun _ _ => false) i j || aheadP cs i j) cs.length = relAhead cs := by simp [relAhead]
section
variable (A : Option Addr) (c : Nat) (cs : List Cl) (w : World) (hA : RdCl w A cs)
include hA
set_option maxRecDepth 100000 in
set_option maxHeartbeats 4000000 in
theorem ahead_ok (hl : cs.length ≤ 12) : Calls Try.prog 90 #[.slice A cs.length c] w fun e w' => e = .returned (.tuple #[.agg (relCells cs.length (relAhead cs)), .int .i64 0]) ∧ Below w.heap.size w w' := by
  refine calls_T (S := []) [] Try.func90 rfl Try.ntmps90 (by simp) (Mem.nil _) ?_
  repeat' (first | (refine GO ?_) | (refine GOE ?_; (first | (rintro _ _ ⟨rfl, rfl⟩) | (rintro _ _ ⟨g, rfl, rfl⟩) | (rintro _ _ ⟨A', c', rfl, rfl⟩))) | ((refine GO2 ?_ ?_) <;> intro h <;> (try (repeat (first | with_reducible (replace h := of_decide_eq_true h) | with_reducible (replace h := of_decide_eq_false h) | with_reducible (replace h := bnt h) | with_reducible (replace h := bnf h) | with_reducible (replace h := Int.not_lt.mp h) | with_reducible (replace h := Int.not_le.mp h) | with_reducible (replace h := band_dec h) | with_reducible (replace h := band_decF h) | with_reducible (replace h := bor_dec h) | with_reducible (replace h := bor_decF h)))) <;> (try (exfalso; first | contradiction | omega))) | fail)
  rename_i g2
  obtain ⟨gr, rfl⟩ : ∃ x, x = g := ⟨_, rfl⟩
  refine T_loop (X := Nat) (fun k => [(18, .int .i64 (k : Nat)), (17, .int .i64 cs.length), (16, .slice A cs.length c), (4, .pointer (some ⟨gr, 0, none⟩)), (2, .pointer (some ⟨g2, 0, none⟩)), (0, .slice A cs.length c)])
    (fun k => [entBlk gr 69 (relCells cs.length (relN (orP (fun _ _ => false) (aheadP cs) k 0) cs.length)), entBlk g2 69 (relCells 0 (fun _ => 0))]) (fun k => k ≤ cs.length) (fun k => cs.length - k) 0 (by omega) (by (repeat (first | exact SubE.nil _ | refine SubE.cons rfl ?_))) (fun w hw => by rw [orP_0, relN_0]; exact hw) ?_
  intro k hk
  by_cases hkk : k < cs.length
  · obtain ⟨b, o, rfl, _⟩ := RdE.open hA (by omega)
    repeat' (first | (refine GO ?_) | (refine GOE ?_; (first | (rintro _ _ ⟨rfl, rfl⟩) | (rintro _ _ ⟨g, rfl, rfl⟩) | (rintro _ _ ⟨A', c', rfl, rfl⟩))) | ((refine GO2 ?_ ?_) <;> intro h <;> (try (repeat (first | with_reducible (replace h := of_decide_eq_true h) | with_reducible (replace h := of_decide_eq_false h) | with_reducible (replace h := bnt h) | with_reducible (replace h := bnf h) | with_reducible (replace h := Int.not_lt.mp h) | with_reducible (replace h := Int.not_le.mp h) | with_reducible (replace h := band_dec h) | with_reducible (replace h := band_decF h) | with_reducible (replace h := bor_dec h) | with_reducible (replace h := bor_decF h)))) <;> (try (exfalso; first | contradiction | omega))) | fail)
    obtain ⟨gm, rfl⟩ : ∃ x, x = g := ⟨_, rfl⟩
    refine T_loop (X := Nat) (fun m => [(25, .int .i64 (m : Nat)), (24, .int .i64 cs.length), (23, .slice (some ⟨b, o, none⟩) cs.length c), (6, .pointer (some ⟨gm, 0, none⟩)), (5, .int .i64 (k : Nat)), (18, .int .i64 (k : Nat)), (17, .int .i64 cs.length), (16, .slice (some ⟨b, o, none⟩) cs.length c), (4, .pointer (some ⟨gr, 0, none⟩)), (2, .pointer (some ⟨g2, 0, none⟩)), (0, .slice (some ⟨b, o, none⟩) cs.length c)])
      (fun m => [entBlk gm 76 cs[k].enc.toArray, entBlk gr 69 (relCells cs.length (relN (orP (fun _ _ => false) (aheadP cs) k m) cs.length)), entBlk g2 69 (relCells 0 (fun _ => 0))]) (fun m => m ≤ cs.length) (fun m => cs.length - m) 0 (by omega) (by (repeat (first | exact SubE.nil _ | refine SubE.cons rfl ?_))) (fun w hw => hw) ?_
    intro m hml
    by_cases hmm : m < cs.length
    · have hq : aheadP cs k m = (!decide (cs[k].to = -1) && decide (cs[k].to < cs[m].from_)) := by rw [aheadP, clD hkk, clD hmm]
      have hlt := relN_lt (orP (fun _ _ => false) (aheadP cs) k m) (n := cs.length) (by omega) k
      have hpm := pow_lt_16 (m := m) (by omega)
      have hyes := relN_yes (P := fun _ _ => false) (Q := aheadP cs) hkk hmm
      have hno := relN_no (P := fun _ _ => false) (Q := aheadP cs) (n := cs.length) (k := k) (m := m)
      obtain ⟨F, hFF⟩ : ∃ F, relN (orP (fun _ _ => false) (aheadP cs) k m) cs.length = F := ⟨_, rfl⟩
      rw [hFF] at hyes hno hlt ⊢
      repeat' (first | (refine GO ?_) | (refine GOE ?_; (first | (rintro _ _ ⟨rfl, rfl⟩) | (rintro _ _ ⟨g, rfl, rfl⟩) | (rintro _ _ ⟨A', c', rfl, rfl⟩))) | ((refine GO2 ?_ ?_) <;> intro h <;> (try (repeat (first | with_reducible (replace h := of_decide_eq_true h) | with_reducible (replace h := of_decide_eq_false h) | with_reducible (replace h := bnt h) | with_reducible (replace h := bnf h) | with_reducible (replace h := Int.not_lt.mp h) | with_reducible (replace h := Int.not_le.mp h) | with_reducible (replace h := band_dec h) | with_reducible (replace h := band_decF h) | with_reducible (replace h := bor_dec h) | with_reducible (replace h := bor_decF h)))) <;> (try (exfalso; first | contradiction | omega))) | fail)
      all_goals
        refine At_rounds (m + 1) (by omega) (by omega) (by (repeat (first | exact SubE.nil _ | refine SubE.cons rfl ?_))) (fun w hw => ?_)
        first
          | (rw [← hyes (by rw [hq, decide_eq_false (show ¬ cs[k].to = -1 by assumption), decide_eq_true (by assumption)]; rfl)]; exact hw.sub (by first | ((repeat (first | with_reducible exact List.nil_sublist _ | with_reducible exact List.Sublist.refl _ | with_reducible apply List.Sublist.cons_cons | with_reducible apply List.Sublist.cons)); done) | (repeat (first | exact List.nil_sublist _ | exact List.Sublist.refl _ | apply List.Sublist.cons_cons | apply List.Sublist.cons))))
          | (rw [← hno (by rw [hq, decide_eq_true (show cs[k].to = -1 by assumption)]; rfl)]; exact hw.sub (by first | ((repeat (first | with_reducible exact List.nil_sublist _ | with_reducible exact List.Sublist.refl _ | with_reducible apply List.Sublist.cons_cons | with_reducible apply List.Sublist.cons)); done) | (repeat (first | exact List.nil_sublist _ | exact List.Sublist.refl _ | apply List.Sublist.cons_cons | apply List.Sublist.cons))))
          | (rw [← hno (by rw [hq, decide_eq_false (show ¬ cs[k].to < cs[m].from_ by omega)]; simp)]; exact hw.sub (by first | ((repeat (first | with_reducible exact List.nil_sublist _ | with_reducible exact List.Sublist.refl _ | with_reducible apply List.Sublist.cons_cons | with_reducible apply List.Sublist.cons)); done) | (repeat (first | exact List.nil_sublist _ | exact List.Sublist.refl _ | apply List.Sublist.cons_cons | apply List.Sublist.cons))))
    · obtain rfl : m = cs.length := by omega
      repeat' (first | (refine GO ?_) | (refine GOE ?_; (first | (rintro _ _ ⟨rfl, rfl⟩) | (rintro _ _ ⟨g, rfl, rfl⟩) | (rintro _ _ ⟨A', c', rfl, rfl⟩))) | ((refine GO2 ?_ ?_) <;> intro h <;> (try (repeat (first | with_reducible (replace h := of_decide_eq_true h) | with_reducible (replace h := of_decide_eq_false h) | with_reducible (replace h := bnt h) | with_reducible (replace h := bnf h) | with_reducible (replace h := Int.not_lt.mp h) | with_reducible (replace h := Int.not_le.mp h) | with_reducible (replace h := band_dec h) | with_reducible (replace h := band_decF h) | with_reducible (replace h := bor_dec h) | with_reducible (replace h := bor_decF h)))) <;> (try (exfalso; first | contradiction | omega))) | fail)
      refine At_rounds (k + 1) (by omega) (by omega) (by (repeat (first | exact SubE.nil _ | refine SubE.cons rfl ?_))) (fun w hw => ?_)
      rw [← relN_next]
      exact hw.sub (by first | ((repeat (first | with_reducible exact List.nil_sublist _ | with_reducible exact List.Sublist.refl _ | with_reducible apply List.Sublist.cons_cons | with_reducible apply List.Sublist.cons)); done) | (repeat (first | exact List.nil_sublist _ | exact List.Sublist.refl _ | apply List.Sublist.cons_cons | apply List.Sublist.cons)))
  · obtain rfl : k = cs.length := by omega
    repeat' (first | (refine GO ?_) | (refine GOE ?_; (first | (rintro _ _ ⟨rfl, rfl⟩) | (rintro _ _ ⟨g, rfl, rfl⟩) | (rintro _ _ ⟨A', c', rfl, rfl⟩))) | ((refine GO2 ?_ ?_) <;> intro h <;> (try (repeat (first | with_reducible (replace h := of_decide_eq_true h) | with_reducible (replace h := of_decide_eq_false h) | with_reducible (replace h := bnt h) | with_reducible (replace h := bnf h) | with_reducible (replace h := Int.not_lt.mp h) | with_reducible (replace h := Int.not_le.mp h) | with_reducible (replace h := band_dec h) | with_reducible (replace h := band_decF h) | with_reducible (replace h := bor_dec h) | with_reducible (replace h := bor_decF h)))) <;> (try (exfalso; first | contradiction | omega))) | fail)
    ((with_reducible apply At_retM Try.results90); (repeat (first | exact ResIs.nil | (apply ResIs.tmp; exact rfl) | (apply ResIs.cell; exact rfl; exact Lds.auto))); intro w' hw)
    exact ⟨by rw [← relAhead_done, ← relN_done]; rfl, hw.below0 rfl⟩
set_option maxRecDepth 100000 in
set_option maxHeartbeats 4000000 in
omit hA in
theorem ahead_large (hl : 12 < cs.length) (hl2 : cs.length ≤ 9223372036854775807) : Calls Try.prog 90 #[.slice A cs.length c] w fun e w' => e = .returned (.tuple #[.agg (relCells 0 (fun _ => 0)), .int .i64 2]) ∧ Below w.heap.size w w' := by
  refine calls_T (S := []) [] Try.func90 rfl Try.ntmps90 (by simp) (Mem.nil _) ?_
  repeat' (first | (refine GO ?_) | (refine GOE ?_; (first | (rintro _ _ ⟨rfl, rfl⟩) | (rintro _ _ ⟨g, rfl, rfl⟩) | (rintro _ _ ⟨A', c', rfl, rfl⟩))) | ((refine GO2 ?_ ?_) <;> intro h <;> (try (repeat (first | with_reducible (replace h := of_decide_eq_true h) | with_reducible (replace h := of_decide_eq_false h) | with_reducible (replace h := bnt h) | with_reducible (replace h := bnf h) | with_reducible (replace h := Int.not_lt.mp h) | with_reducible (replace h := Int.not_le.mp h) | with_reducible (replace h := band_dec h) | with_reducible (replace h := band_decF h) | with_reducible (replace h := bor_dec h) | with_reducible (replace h := bor_decF h)))) <;> (try (exfalso; first | contradiction | omega))) | fail)
  ((with_reducible apply At_retM Try.results90); (repeat (first | exact ResIs.nil | (apply ResIs.tmp; exact rfl) | (apply ResIs.cell; exact rfl; exact Lds.auto))); intro w' hw)
  exact ⟨rfl, hw.below0 rfl⟩
set_option maxRecDepth 100000 in
set_option maxHeartbeats 4000000 in
theorem callRel_any (hl : cs.length ≤ 12) : Calls Try.prog 32 #[.slice A cs.length c] w fun e w' => e = .returned (.agg (relCells cs.length (relAhead cs))) ∧ Below w.heap.size w w' := by
  refine calls_T (S := []) [] Try.func32 rfl Try.ntmps32 (by simp) (Mem.nil _) ?_
  repeat' (first | (refine GO ?_) | (refine GOE ?_; (first | (rintro _ _ ⟨rfl, rfl⟩) | (rintro _ _ ⟨g, rfl, rfl⟩) | (rintro _ _ ⟨A', c', rfl, rfl⟩))) | ((refine GO2 ?_ ?_) <;> intro h <;> (try (repeat (first | with_reducible (replace h := of_decide_eq_true h) | with_reducible (replace h := of_decide_eq_false h) | with_reducible (replace h := bnt h) | with_reducible (replace h := bnf h) | with_reducible (replace h := Int.not_lt.mp h) | with_reducible (replace h := Int.not_le.mp h) | with_reducible (replace h := band_dec h) | with_reducible (replace h := band_decF h) | with_reducible (replace h := bor_dec h) | with_reducible (replace h := bor_decF h)))) <;> (try (exfalso; first | contradiction | omega))) | fail)
  rename_i g2
  obtain ⟨gr, rfl⟩ : ∃ x, x = g := ⟨_, rfl⟩
  refine T_loop (X := Nat) (fun k => [(11, .int .i64 (k : Nat)), (10, .int .i64 cs.length), (3, .pointer (some ⟨gr, 0, none⟩)), (2, .pointer (some ⟨g2, 0, none⟩)), (0, .slice A cs.length c)])
    (fun k => [entBlk gr 69 (relCells cs.length (relN (orP (fun _ _ => false) (aheadP cs) k 0) cs.length)), entBlk g2 69 (relCells 0 (fun _ => 0))]) (fun k => k ≤ cs.length) (fun k => cs.length - k) 0 (by omega) (by (repeat (first | exact SubE.nil _ | refine SubE.cons rfl ?_))) (fun w hw => by rw [orP_0, relN_0]; exact hw) ?_
  intro k hk
  by_cases hkk : k < cs.length
  · obtain ⟨b, o, rfl, _⟩ := RdE.open hA (by omega)
    repeat' (first | (refine GO ?_) | (refine GOE ?_; (first | (rintro _ _ ⟨rfl, rfl⟩) | (rintro _ _ ⟨g, rfl, rfl⟩) | (rintro _ _ ⟨A', c', rfl, rfl⟩))) | ((refine GO2 ?_ ?_) <;> intro h <;> (try (repeat (first | with_reducible (replace h := of_decide_eq_true h) | with_reducible (replace h := of_decide_eq_false h) | with_reducible (replace h := bnt h) | with_reducible (replace h := bnf h) | with_reducible (replace h := Int.not_lt.mp h) | with_reducible (replace h := Int.not_le.mp h) | with_reducible (replace h := band_dec h) | with_reducible (replace h := band_decF h) | with_reducible (replace h := bor_dec h) | with_reducible (replace h := bor_decF h)))) <;> (try (exfalso; first | contradiction | omega))) | fail)
    refine T_loop (X := Nat) (fun m => [(16, .int .i64 (m : Nat)), (15, .int .i64 cs.length), (4, .int .i64 (k : Nat)), (11, .int .i64 (k : Nat)), (10, .int .i64 cs.length), (3, .pointer (some ⟨gr, 0, none⟩)), (2, .pointer (some ⟨g2, 0, none⟩)), (0, .slice (some ⟨b, o, none⟩) cs.length c)])
      (fun m => [entBlk gr 69 (relCells cs.length (relN (orP (fun _ _ => false) (aheadP cs) k m) cs.length)), entBlk g2 69 (relCells 0 (fun _ => 0))]) (fun m => m ≤ cs.length) (fun m => cs.length - m) 0 (by omega) (by (repeat (first | exact SubE.nil _ | refine SubE.cons rfl ?_))) (fun w hw => hw) ?_
    intro m hml
    by_cases hmm : m < cs.length
    · have hq : aheadP cs k m = (!decide (cs[k].to = -1) && decide (cs[k].to < cs[m].from_)) := by rw [aheadP, clD hkk, clD hmm]
      have hlt := relN_lt (orP (fun _ _ => false) (aheadP cs) k m) (n := cs.length) (by omega) k
      have hpm := pow_lt_16 (m := m) (by omega)
      have hyes := relN_add (P := fun _ _ => false) (Q := aheadP cs) hkk hmm
      have hno := relN_no (P := fun _ _ => false) (Q := aheadP cs) (n := cs.length) (k := k) (m := m)
      have hlt2 := fun h => congrArg (fun f => f k) (hyes h rfl)
      have hlt3 := relN_lt (orP (fun _ _ => false) (aheadP cs) k (m + 1)) (n := cs.length) (by omega) k
      obtain ⟨F, hFF⟩ : ∃ F, relN (orP (fun _ _ => false) (aheadP cs) k m) cs.length = F := ⟨_, rfl⟩
      rw [hFF] at hyes hno hlt hlt2 ⊢
      repeat' (first
        | (refine GG ?_) | (refine GE ?_; (first | (rintro _ _ ⟨rfl, rfl⟩) | (rintro _ _ ⟨g, rfl, rfl⟩) | (rintro _ _ ⟨A', c', rfl, rfl⟩)); (try refine ⟨SUB, ?_⟩)) | ((refine GO2 ?_ ?_) <;> intro h <;> (try (repeat (first | with_reducible (replace h := of_decide_eq_true h) | with_reducible (replace h := of_decide_eq_false h) | with_reducible (replace h := bnt h) | with_reducible (replace h := bnf h) | with_reducible (replace h := Int.not_lt.mp h) | with_reducible (replace h := Int.not_le.mp h) | with_reducible (replace h := band_dec h) | with_reducible (replace h := band_decF h) | with_reducible (replace h := bor_dec h) | with_reducible (replace h := bor_decF h)))) <;> (try (exfalso; first | contradiction | omega))) | (refine GOF ?_ ?_) | ((with_reducible apply T_draw (id := 8) 1000 (OT.seq [(0, 0), (0, 1), (0, 2), (0, 3), (1, 4), (0, 5), (0, 6), (0, 7), (0, 8), (0, 9), (0, 10), (0, 12), (0, 13), (0, 14), (0, 15), (1, 11), (1, 16), (0, 17), (0, 18)] .nil)); kernel_rfl; exact rfl; kernel_rfl; (repeat (first | with_reducible exact Blind.body | with_reducible apply Blind.seq | with_reducible apply Blind.block))) | ((with_reducible apply T_draw (id := 9) 9 (OT.seq [(0, 0), (0, 1), (0, 2), (0, 4), (0, 5), (0, 7), (1, 3), (0, 6), (0, 8), (3, 9)] .nil)); kernel_rfl; exact rfl; kernel_rfl; (repeat (first | with_reducible exact Blind.body | with_reducible apply Blind.seq | with_reducible apply Blind.block))) | ((with_reducible apply TD_q0); (with_reducible apply QS_add16); exact rfl; exact rfl; exact rfl) | ((with_reducible apply TD_q1); (with_reducible apply QS_add16); exact rfl; exact rfl; exact rfl) | fail)
      all_goals
        refine At_rounds (m + 1) (by omega) (by omega) (by (repeat (first | exact SubE.nil _ | refine SubE.cons rfl ?_))) (fun w hw => ?_)
        first
          | (have hQ : aheadP cs k m = true := by rw [hq, decide_eq_false (show ¬ cs[k].to = -1 by assumption), decide_eq_true (by assumption)]; rfl
             have h3 := hlt2 hQ
             simp only [upd_same] at h3
             rw [← hyes hQ rfl, show F k + 2 ^ m = (F k + 2 ^ m) % 65536 by rw [Nat.mod_eq_of_lt (by omega)]]
             exact hw)
          | (rw [← hno (by rw [hq, decide_eq_true (show cs[k].to = -1 by assumption)]; rfl)]; exact hw)
          | (rw [← hno (by rw [hq, decide_eq_false (show ¬ cs[k].to < cs[m].from_ by omega)]; simp)]; exact hw)
    · obtain rfl : m = cs.length := by omega
      repeat' (first | (refine GG ?_) | (refine GE ?_; (first | (rintro _ _ ⟨rfl, rfl⟩) | (rintro _ _ ⟨g, rfl, rfl⟩) | (rintro _ _ ⟨A', c', rfl, rfl⟩)); (try refine ⟨SUB, ?_⟩)) | ((refine GO2 ?_ ?_) <;> intro h <;> (try (repeat (first | with_reducible (replace h := of_decide_eq_true h) | with_reducible (replace h := of_decide_eq_false h) | with_reducible (replace h := bnt h) | with_reducible (replace h := bnf h) | with_reducible (replace h := Int.not_lt.mp h) | with_reducible (replace h := Int.not_le.mp h) | with_reducible (replace h := band_dec h) | with_reducible (replace h := band_decF h) | with_reducible (replace h := bor_dec h) | with_reducible (replace h := bor_decF h)))) <;> (try (exfalso; first | contradiction | omega))) | (refine GOF ?_ ?_) | fail)
      refine At_rounds (k + 1) (by omega) (by omega) (by (repeat (first | exact SubE.nil _ | refine SubE.cons rfl ?_))) (fun w hw => ?_)
      rw [← relN_next]
      exact hw
  · obtain rfl : k = cs.length := by omega
    repeat' (first | (refine GO ?_) | (refine GOE ?_; (first | (rintro _ _ ⟨rfl, rfl⟩) | (rintro _ _ ⟨g, rfl, rfl⟩) | (rintro _ _ ⟨A', c', rfl, rfl⟩))) | ((refine GO2 ?_ ?_) <;> intro h <;> (try (repeat (first | with_reducible (replace h := of_decide_eq_true h) | with_reducible (replace h := of_decide_eq_false h) | with_reducible (replace h := bnt h) | with_reducible (replace h := bnf h) | with_reducible (replace h := Int.not_lt.mp h) | with_reducible (replace h := Int.not_le.mp h) | with_reducible (replace h := band_dec h) | with_reducible (replace h := band_decF h) | with_reducible (replace h := bor_dec h) | with_reducible (replace h := bor_decF h)))) <;> (try (exfalso; first | contradiction | omega))) | fail)
    ((with_reducible apply At_retM Try.results32); (repeat (first | exact ResIs.nil | (apply ResIs.tmp; exact rfl) | (apply ResIs.cell; exact rfl; exact Lds.auto))); intro w' hw)
    exact ⟨by rw [← relAhead_done, ← relN_done]; rfl, hw.below0 rfl⟩
end
end Go.Proofs.Ytiimjppceobkfaa

namespace Go.Proofs.Ytiimjppceobkfaa
open Go.RowKit

/-- the calls, if they are few enough; what is wrong -/
def fewS (ts : List Int) (l : List Ev) : List Cl × Int := if (callsR ts l).2.2 ≠ 0 then ([], (callsR ts l).2.2) else if 9 < (callsR ts l).1.length then ([], 2) else ((callsR ts l).1, 0)
theorem fewS_err {ts : List Int} {l : List Ev} (h : ¬ (callsR ts l).2.2 = 0) : fewS ts l = ([], (callsR ts l).2.2) := by unfold fewS; rw [if_pos h]
theorem fewS_large {ts : List Int} {l : List Ev} (h : (callsR ts l).2.2 = 0) (h9 : 9 < (callsR ts l).1.length) : fewS ts l = ([], 2) := by unfold fewS; rw [if_neg (by simp [h]), if_pos h9]
theorem fewS_ok {ts : List Int} {l : List Ev} (h : (callsR ts l).2.2 = 0) (h9 : ¬ 9 < (callsR ts l).1.length) : fewS ts l = ((callsR ts l).1, 0) := by unfold fewS; rw [if_neg (by simp [h]), if_neg h9]
/-- what is so of the times of the calls that a reading keeps -/
structure ClsTo (i : Int) (cs : List Cl) : Prop where
  to : ∀ q (h : q < cs.length), cs[q].to = -1 ∨ (cs[q].from_ < cs[q].to ∧ cs[q].to < i)
  one : ∀ p q (h1 : p < q) (h : q < cs.length), cs[p].who = cs[q].who → cs[p].to ≠ -1 ∧ cs[p].to < cs[q].from_
theorem clsTo_step {ts : List Int} {i : Int} {cs : List Cl} (x : Ev) (hi : 0 ≤ i) (hp : ∀ q (h : q < cs.length), cs[q].from_ < i) (h : ClsTo i cs) : ClsTo (i + 1) (evR ts cs i x).2 := by
  have keep : ClsTo (i + 1) cs := ⟨fun q hq => by rcases h.to q hq with h1 | h1; exact .inl h1; exact .inr ⟨h1.1, by omega⟩, h.one⟩
  unfold evR
  by_cases hf : formBad ts x = true
  · rw [if_pos hf]; exact keep
  · rw [if_neg hf]
    by_cases hk : x.kind = 0
    · rw [if_pos hk]
      split
      · exact keep
      · split
        · rename_i hz hc
          have hlt := openTo_lt cs x.who cs.length
          obtain ⟨m, hm, hml, hmw, hmt⟩ := openTo_at (cs := cs) (who := x.who) cs.length (by omega)
          have hmt' : (openTo cs x.who cs.length).toNat = m := by omega
          rw [hmt']
          have hd : cs.getD m default = cs[m] := by simp [hml]
          rw [hd] at hmw hmt ⊢
          dsimp only
          refine ⟨fun q hq => ?_, fun p q hpq hq => ?_⟩
          · have hq' : q < cs.length := by simpa using hq
            rw [List.getElem_set]
            split
            · exact .inr ⟨hp m hml, by dsimp only; omega⟩
            · exact keep.to q hq'
          · have hq' : q < cs.length := by simpa using hq
            have ho := h.one p q hpq hq'
            rw [List.getElem_set, List.getElem_set]
            split <;> split
            · omega
            · rename_i e1 e2
              subst e1
              intro e
              exact absurd hmt (ho e).1
            · rename_i e1 e2
              subst e2
              exact ho
            · exact ho
        · exact keep
    · rw [if_neg hk]
      split
      · exact keep
      · split
        · exact keep
        · rename_i hop
          dsimp only
          refine ⟨fun q hq => ?_, fun p q hpq hq => ?_⟩
          · by_cases e : q < cs.length
            · rw [List.getElem_append_left e]; exact keep.to q e
            · rw [List.getElem_append_right (by omega)]
              simp
          · simp only [List.length_append, List.length_cons, List.length_nil] at hq
            by_cases e : q < cs.length
            · rw [List.getElem_append_left e, List.getElem_append_left (by omega)]; exact h.one p q hpq e
            · have hpl : p < cs.length := by omega
              rw [List.getElem_append_left hpl, List.getElem_append_right (by omega)]
              simp only [List.getElem_singleton]
              intro ew
              have hd : cs.getD p default = cs[p] := by simp [hpl]
              have hto : cs[p].to ≠ -1 := fun et => by
                have h1 := openTo_some (cs := cs) (who := x.who) (j := p) cs.length hpl (by rw [hd]; exact ⟨ew, et⟩)
                have := openTo_lt cs x.who cs.length
                omega
              refine ⟨hto, ?_⟩
              rcases h.to p hpl with h1 | h1
              · exact absurd h1 hto
              · exact h1.2
theorem clsTo_st (ts : List Int) (l : List Ev) : ∀ k : Nat, ClsTo (k : Int) (stR ts l k)
  | 0 => ⟨fun q h => by simp [stR] at h, fun p q _ h => by simp [stR] at h⟩
  | k + 1 => by
    have := clsTo_step (ts := ts) (i := k) (l.getD k default) (by omega) (fun q hq => ((clsOk_st ts l k).each q hq).place.2) (clsTo_st ts l k)
    rw [stR]
    exact this
/-- what is so of them -/
structure SeaOk (ts : List Int) (cs : List Cl) : Prop where
  types : typesOk ts = true
  calls : CallsOk ts cs
  few : cs.length ≤ 9
  cls : ClsOk ts 200 cs
  tos : ClsTo 200 cs
theorem fewS_facts {ts : List Int} {l : List Ev} (h : (fewS ts l).2 = 0) : SeaOk ts (fewS ts l).1 := by
  by_cases h0 : (callsR ts l).2.2 = 0
  · by_cases h9 : 9 < (callsR ts l).1.length
    · rw [fewS_large h0 h9] at h; cases h
    · obtain ⟨h1, h2, _, h4⟩ := callsR_inv h0
      rw [fewS_ok h0 h9]
      have hc := clsOk_st ts l l.length
      have ht := clsTo_st ts l l.length
      rw [← h4] at hc ht
      exact ⟨h1, CallsOk.of hc, by (try dsimp only); omega, ⟨fun q hq => (hc.each q hq).mono (by omega), hc.rising⟩, ⟨fun q hq => by rcases ht.to q hq with h1 | h1; exact .inl h1; exact .inr ⟨h1.1, Int.lt_of_lt_of_le h1.2 (by omega)⟩, ht.one⟩⟩
  · rw [fewS_err h0] at h; exact absurd h h0
section
variable (A0 B0 : Option Addr) (c0 d0 : Nat) (ts : List Int) (l : List Ev) (w : World) (hts : ts.length ≤ 9223372036854775807) (hl : l.length ≤ 9223372036854775807) (hT : RdInt w A0 ts) (hA : RdEv w B0 l)
include hts hl hT hA
set_option maxRecDepth 100000 in
theorem searchCalls_any : Calls Try.prog 108 #[.slice A0 ts.length c0, .slice B0 l.length d0] w fun e w' => ∃ A c, e = .returned (.tuple #[.slice A (fewS ts l).1.length c, .int .i64 (fewS ts l).2]) ∧ Own Cl.enc 7 76 w' w.heap.size (.slice A (fewS ts l).1.length c) (fewS ts l).1 ∧ Below w.heap.size w w' := by
  have h1 := fun w h1 h2 => callsCode_any A0 B0 c0 d0 ts l w hts hl h1 h2
  have he := fewS_err (ts := ts) (l := l)
  have hg := fewS_large (ts := ts) (l := l)
  have ho := fewS_ok (ts := ts) (l := l)
  generalize fewS ts l = F at *
  generalize callsR ts l = R at *
  obtain ⟨cs, at_, er⟩ := R
  dsimp only at h1 he hg ho
  refine calls_T (S := []) [] Try.func108 rfl Try.ntmps108 (by simp) (Mem.nil _) ?_
  repeat' (first | (refine GO ?_) | (refine GOE ?_; (first | (rintro _ _ ⟨rfl, rfl⟩) | (rintro _ _ ⟨g, rfl, rfl⟩) | (rintro _ _ ⟨A', c', rfl, rfl⟩))) | ((refine GO2 ?_ ?_) <;> intro h <;> (try (repeat (first | with_reducible (replace h := of_decide_eq_true h) | with_reducible (replace h := of_decide_eq_false h) | with_reducible (replace h := bnt h) | with_reducible (replace h := bnf h) | with_reducible (replace h := Int.not_lt.mp h) | with_reducible (replace h := Int.not_le.mp h) | with_reducible (replace h := band_dec h) | with_reducible (replace h := band_decF h) | with_reducible (replace h := bor_dec h) | with_reducible (replace h := bor_decF h)))) <;> (try (exfalso; first | contradiction | omega))) | ((with_reducible (first | apply TD_e2z | apply TD_e3z | apply TL_e | apply TD_e2 | apply TD_e3)); ((with_reducible apply ES_callOwn (f := 143)); exact rfl; (intro w hw; exact h1 w (hw.rd rfl hT) (hw.rd rfl hA)); exact rfl); (first | exact rfl | exact ⟨rfl, rfl, rfl⟩); (rintro _ _ ⟨A1, c1, rfl, rfl⟩); (try refine ⟨SUB, ?_⟩)) | fail)
  · (refine At_ret Try.results108 rfl (fun w' hw => ?_))
    rw [he (by assumption)]
    exact ⟨none, 0, rfl, Own.nil _ _, hw.below0 rfl⟩
  · (refine At_ret Try.results108 rfl (fun w' hw => ?_))
    rw [hg (by assumption) (by omega)]
    exact ⟨none, 0, rfl, Own.nil _ _, hw.below0 rfl⟩
  · (refine At_ret Try.results108 rfl (fun w' hw => ?_))
    rw [ho (by assumption) (by omega)]
    exact ⟨A1, c1, rfl, hw.ownOut rfl (by first | ((repeat (first | with_reducible exact List.mem_cons_self | with_reducible apply List.mem_cons_of_mem)); done) | (repeat (first | exact List.Mem.head _ | apply List.Mem.tail))), hw.below0 rfl⟩
set_option maxRecDepth 100000 in
theorem searched_any : Calls Try.prog 45 #[.slice A0 ts.length c0, .slice B0 l.length d0] w fun e w' => ∃ A c, e = .returned (.tuple #[.slice A (fewS ts l).1.length c, .int .i64 (fewS ts l).2]) ∧ Own Cl.enc 7 76 w' w.heap.size (.slice A (fewS ts l).1.length c) (fewS ts l).1 ∧ Below w.heap.size w w' := by
  have h1 := fun w h1 h2 => callsOf_any A0 B0 c0 d0 ts l w hts hl h1 h2
  have he := fewS_err (ts := ts) (l := l)
  have hg := fewS_large (ts := ts) (l := l)
  have ho := fewS_ok (ts := ts) (l := l)
  have hz : ¬ (callsR ts l).2.2 = 0 → (callsR ts l).1 = [] := fun h => by
    unfold callsR at h ⊢
    repeat' split
    all_goals (try rfl)
    all_goals (simp_all)
  generalize fewS ts l = F at *
  generalize callsR ts l = R at *
  obtain ⟨cs, at_, er⟩ := R
  dsimp only at h1 he hg ho hz
  refine calls_T (S := []) [] Try.func45 rfl Try.ntmps45 (by simp) (Mem.nil _) ?_
  repeat' (first | (refine GO ?_) | (refine GOE ?_; (first | (rintro _ _ ⟨rfl, rfl⟩) | (rintro _ _ ⟨g, rfl, rfl⟩) | (rintro _ _ ⟨A', c', rfl, rfl⟩))) | ((refine GO2 ?_ ?_) <;> intro h <;> (try (repeat (first | with_reducible (replace h := of_decide_eq_true h) | with_reducible (replace h := of_decide_eq_false h) | with_reducible (replace h := bnt h) | with_reducible (replace h := bnf h) | with_reducible (replace h := Int.not_lt.mp h) | with_reducible (replace h := Int.not_le.mp h) | with_reducible (replace h := band_dec h) | with_reducible (replace h := band_decF h) | with_reducible (replace h := bor_dec h) | with_reducible (replace h := bor_decF h)))) <;> (try (exfalso; first | contradiction | omega))) | ((with_reducible (first | apply TD_e2z | apply TD_e3z | apply TL_e | apply TD_e2 | apply TD_e3)); ((with_reducible apply ES_callOwn (f := 41)); exact rfl; (intro w hw; exact h1 w (hw.rd rfl hT) (hw.rd rfl hA)); exact rfl); (first | exact rfl | exact ⟨rfl, rfl, rfl⟩); (rintro _ _ ⟨A1, c1, rfl, rfl⟩); (try refine ⟨SUB, ?_⟩)) | fail)
  · (refine At_ret Try.results45 rfl (fun w' hw => ?_))
    rw [hg (by assumption) (by omega)]
    exact ⟨none, 0, rfl, Own.nil _ _, hw.below0 rfl⟩
  · (refine At_ret Try.results45 rfl (fun w' hw => ?_))
    have h0 : er = 0 := by assumption
    rw [ho h0 (by omega)]
    exact ⟨A1, c1, by rw [h0]; rfl, hw.ownOut rfl (by first | ((repeat (first | with_reducible exact List.mem_cons_self | with_reducible apply List.mem_cons_of_mem)); done) | (repeat (first | exact List.Mem.head _ | apply List.Mem.tail))), hw.below0 rfl⟩
  · (refine At_ret Try.results45 rfl (fun w' hw => ?_))
    have h0 : ¬ er = 0 := by assumption
    rw [he h0, ← hz h0]
    exact ⟨A1, c1, rfl, hw.ownOut rfl (by first | ((repeat (first | with_reducible exact List.mem_cons_self | with_reducible apply List.mem_cons_of_mem)); done) | (repeat (first | exact List.Mem.head _ | apply List.Mem.tail))), hw.below0 rfl⟩
end
theorem relOk_ahead {ts : List Int} {cs : List Cl} (h : SeaOk ts cs) : RelOk cs (relAhead cs) := by
  intro i j hb
  unfold relAhead at hb
  rw [relN_bit, Bool.and_eq_true, Bool.and_eq_true, decide_eq_true_eq, decide_eq_true_eq] at hb
  obtain ⟨hi, hj, ha⟩ := hb
  unfold aheadP at ha
  rw [clD hi, clD hj, Bool.and_eq_true, Bool.not_eq_true', decide_eq_false_iff_not, decide_eq_true_eq] at ha
  refine ⟨hi, hj, fun e => ?_, by rw [callAt_eq hi]; exact ha.1⟩
  subst e
  rcases h.tos.to i hi with h1 | h1
  · exact ha.1 h1
  · omega
theorem relAhead_16 (cs : List Cl) (h : cs.length ≤ 16) (i : Nat) : relAhead cs i < 65536 := relN_lt _ h i
section
variable (A0 B0 D : Option Addr) (c0 d0 dc : Nat) (ts : List Int) (l : List Ev) (v : List Stp) (w : World) (hts : ts.length ≤ 9223372036854775807) (hl : l.length ≤ 9223372036854775807) (hv : v.length ≤ 9223372036854775807) (hT : RdInt w A0 ts) (hA : RdEv w B0 l) (hD : RdStp w D v)
include hts hl hT hA
/-- what Right answers, by what must stand ahead of what -/
def rightS (ts : List Int) (l : List Ev) (F : List Cl → Nat → Nat) (v : List Stp) : Bool := if (fewS ts l).2 = 0 then validW ts (fewS ts l).1 (F (fewS ts l).1) v else false
def findS (ts : List Int) (l : List Ev) (F : List Cl → Nat → Nat) : Option (List Stp) := if (fewS ts l).2 = 0 then foundS ts (fewS ts l).1 (F (fewS ts l).1) else none
include hv hD in
set_option maxRecDepth 100000 in
set_option maxHeartbeats 1000000 in
theorem searchRight_any : Calls Try.prog 54 #[.slice A0 ts.length c0, .slice B0 l.length d0, .slice D v.length dc] w fun e w' => e = .returned (.tuple #[.bool (rightS ts l relAhead v), .int .i64 (fewS ts l).2]) ∧ Below w.heap.size w w' := by
  have h1 := fun w h1 h2 => searchCalls_any A0 B0 c0 d0 ts l w hts hl h1 h2
  have hf := fewS_facts (ts := ts) (l := l)
  unfold rightS
  generalize fewS ts l = F at *
  obtain ⟨cs, er⟩ := F
  dsimp only at h1 hf ⊢
  refine calls_T (S := []) [] Try.func54 rfl Try.ntmps54 (by simp) (Mem.nil _) ?_
  by_cases h0 : er = 0
  · subst h0
    have hs := hf rfl
    have h9 := hs.few
    have hah := fun A c w' h => ahead_ok A c cs w' h (by omega)
    have hval := fun A c w' h1 h2 h3 => valid_any A0 A D c0 c dc ts cs cs.length (relAhead cs) v w' hs.types hs.calls h9 (fun i _ => relAhead_16 cs (by omega) i) h1 h2 h3 hv
    rw [if_pos rfl]
    generalize validW ts cs (relAhead cs) v = z at *
    repeat' (first | (refine GO ?_) | (refine GOE ?_; (first | (rintro _ _ ⟨rfl, rfl⟩) | (rintro _ _ ⟨g, rfl, rfl⟩) | (rintro _ _ ⟨A', c', rfl, rfl⟩))) | ((refine GO2 ?_ ?_) <;> intro h <;> (try (repeat (first | with_reducible (replace h := of_decide_eq_true h) | with_reducible (replace h := of_decide_eq_false h) | with_reducible (replace h := bnt h) | with_reducible (replace h := bnf h) | with_reducible (replace h := Int.not_lt.mp h) | with_reducible (replace h := Int.not_le.mp h) | with_reducible (replace h := band_dec h) | with_reducible (replace h := band_decF h) | with_reducible (replace h := bor_dec h) | with_reducible (replace h := bor_decF h)))) <;> (try (exfalso; first | contradiction | omega))) | ((with_reducible (first | apply TD_e2z | apply TD_e3z | apply TL_e | apply TD_e2 | apply TD_e3)); ((with_reducible apply ES_callOwn (f := 108)); exact rfl; (intro w hw; exact h1 w (hw.rd rfl hT) (hw.rd rfl hA)); exact rfl); (first | exact rfl | exact ⟨rfl, rfl, rfl⟩); (rintro _ _ ⟨A1, c1, rfl, rfl⟩); (try refine ⟨SUB, ?_⟩)) | ((with_reducible (first | apply TD_e2z | apply TD_e3z | apply TL_e | apply TD_e2 | apply TD_e3)); ((with_reducible apply ES_callV (f := 90)); exact rfl; (intro w hw; exact hah _ _ w (hw.ownRd (by first | ((repeat (first | with_reducible exact List.mem_cons_self | with_reducible apply List.mem_cons_of_mem)); done) | (repeat (first | exact List.Mem.head _ | apply List.Mem.tail))) (fun _ => rfl))); exact rfl); (first | exact rfl | exact ⟨rfl, rfl, rfl⟩); (rintro _ _ ⟨rfl, rfl⟩); (try refine ⟨SUB, ?_⟩)) | ((with_reducible (first | apply TD_e2z | apply TD_e3z | apply TL_e | apply TD_e2 | apply TD_e3)); ((with_reducible apply ES_callV (f := 114)); exact rfl; (intro w hw; exact hval _ _ w (hw.rd rfl hT) (hw.ownRd (by first | ((repeat (first | with_reducible exact List.mem_cons_self | with_reducible apply List.mem_cons_of_mem)); done) | (repeat (first | exact List.Mem.head _ | apply List.Mem.tail))) (fun _ => rfl)) (hw.rd rfl hD)); exact rfl); (first | exact rfl | exact ⟨rfl, rfl, rfl⟩); (rintro _ _ ⟨rfl, rfl⟩); (try refine ⟨SUB, ?_⟩)) | fail)
    (refine At_ret Try.results54 rfl (fun w' hw => ?_))
    exact ⟨rfl, hw.below0 rfl⟩
  · rw [if_neg h0]
    repeat' (first | (refine GO ?_) | (refine GOE ?_; (first | (rintro _ _ ⟨rfl, rfl⟩) | (rintro _ _ ⟨g, rfl, rfl⟩) | (rintro _ _ ⟨A', c', rfl, rfl⟩))) | ((refine GO2 ?_ ?_) <;> intro h <;> (try (repeat (first | with_reducible (replace h := of_decide_eq_true h) | with_reducible (replace h := of_decide_eq_false h) | with_reducible (replace h := bnt h) | with_reducible (replace h := bnf h) | with_reducible (replace h := Int.not_lt.mp h) | with_reducible (replace h := Int.not_le.mp h) | with_reducible (replace h := band_dec h) | with_reducible (replace h := band_decF h) | with_reducible (replace h := bor_dec h) | with_reducible (replace h := bor_decF h)))) <;> (try (exfalso; first | contradiction | omega))) | ((with_reducible (first | apply TD_e2z | apply TD_e3z | apply TL_e | apply TD_e2 | apply TD_e3)); ((with_reducible apply ES_callOwn (f := 108)); exact rfl; (intro w hw; exact h1 w (hw.rd rfl hT) (hw.rd rfl hA)); exact rfl); (first | exact rfl | exact ⟨rfl, rfl, rfl⟩); (rintro _ _ ⟨A1, c1, rfl, rfl⟩); (try refine ⟨SUB, ?_⟩)) | fail)
    (refine At_ret Try.results54 rfl (fun w' hw => ?_))
    exact ⟨rfl, hw.below0 rfl⟩
set_option maxRecDepth 100000 in
set_option maxHeartbeats 1000000 in
theorem searchFind_any : Calls Try.prog 55 #[.slice A0 ts.length c0, .slice B0 l.length d0] w fun e w' => ∃ A c, e = .returned (.tuple #[.slice A ((findS ts l relAhead).getD []).length c, .bool (findS ts l relAhead).isSome, .int .i64 (fewS ts l).2]) ∧
    Own Stp.enc 2 72 w' w.heap.size (.slice A ((findS ts l relAhead).getD []).length c) ((findS ts l relAhead).getD []) ∧ Below w.heap.size w w' := by
  have h1 := fun w h1 h2 => searchCalls_any A0 B0 c0 d0 ts l w hts hl h1 h2
  have hf := fewS_facts (ts := ts) (l := l)
  unfold findS
  generalize fewS ts l = F at *
  obtain ⟨cs, er⟩ := F
  dsimp only at h1 hf ⊢
  refine calls_T (S := []) [] Try.func55 rfl Try.ntmps55 (by simp) (Mem.nil _) ?_
  by_cases h0 : er = 0
  · subst h0
    have hs := hf rfl
    have h9 := hs.few
    have hah := fun A c w' h => ahead_ok A c cs w' h (by omega)
    have hsm := fun A c w' h1 h2 => smallest_any A0 A c0 c ts cs cs.length (relAhead cs) w' hs.types hs.calls h9 (fun i _ => relAhead_16 cs (by omega) i) h1 h2
    rw [if_pos rfl]
    generalize foundS ts cs (relAhead cs) = o at *
    repeat' (first | (refine GO ?_) | (refine GOE ?_; (first | (rintro _ _ ⟨rfl, rfl⟩) | (rintro _ _ ⟨g, rfl, rfl⟩) | (rintro _ _ ⟨A', c', rfl, rfl⟩))) | ((refine GO2 ?_ ?_) <;> intro h <;> (try (repeat (first | with_reducible (replace h := of_decide_eq_true h) | with_reducible (replace h := of_decide_eq_false h) | with_reducible (replace h := bnt h) | with_reducible (replace h := bnf h) | with_reducible (replace h := Int.not_lt.mp h) | with_reducible (replace h := Int.not_le.mp h) | with_reducible (replace h := band_dec h) | with_reducible (replace h := band_decF h) | with_reducible (replace h := bor_dec h) | with_reducible (replace h := bor_decF h)))) <;> (try (exfalso; first | contradiction | omega))) | ((with_reducible (first | apply TD_e2z | apply TD_e3z | apply TL_e | apply TD_e2 | apply TD_e3)); ((with_reducible apply ES_callOwn (f := 108)); exact rfl; (intro w hw; exact h1 w (hw.rd rfl hT) (hw.rd rfl hA)); exact rfl); (first | exact rfl | exact ⟨rfl, rfl, rfl⟩); (rintro _ _ ⟨A1, c1, rfl, rfl⟩); (try refine ⟨SUB, ?_⟩)) | ((with_reducible (first | apply TD_e2z | apply TD_e3z | apply TL_e | apply TD_e2 | apply TD_e3)); ((with_reducible apply ES_callV (f := 90)); exact rfl; (intro w hw; exact hah _ _ w (hw.ownRd (by first | ((repeat (first | with_reducible exact List.mem_cons_self | with_reducible apply List.mem_cons_of_mem)); done) | (repeat (first | exact List.Mem.head _ | apply List.Mem.tail))) (fun _ => rfl))); exact rfl); (first | exact rfl | exact ⟨rfl, rfl, rfl⟩); (rintro _ _ ⟨rfl, rfl⟩); (try refine ⟨SUB, ?_⟩)) | ((with_reducible (first | apply TD_e2z | apply TD_e3z | apply TL_e | apply TD_e2 | apply TD_e3)); ((with_reducible apply ES_callOwn (f := 110)); exact rfl; (intro w hw; exact hsm _ _ w (hw.rd rfl hT) (hw.ownRd (by first | ((repeat (first | with_reducible exact List.mem_cons_self | with_reducible apply List.mem_cons_of_mem)); done) | (repeat (first | exact List.Mem.head _ | apply List.Mem.tail))) (fun _ => rfl))); exact rfl); (first | exact rfl | exact ⟨rfl, rfl, rfl⟩); (rintro _ _ ⟨A5, c5, rfl, rfl⟩); (try refine ⟨SUB, ?_⟩)) | fail)
    (refine At_ret Try.results55 rfl (fun w' hw => ?_))
    exact ⟨A5, c5, rfl, hw.ownOut rfl (by first | ((repeat (first | with_reducible exact List.mem_cons_self | with_reducible apply List.mem_cons_of_mem)); done) | (repeat (first | exact List.Mem.head _ | apply List.Mem.tail))), hw.below0 rfl⟩
  · rw [if_neg h0]
    repeat' (first | (refine GO ?_) | (refine GOE ?_; (first | (rintro _ _ ⟨rfl, rfl⟩) | (rintro _ _ ⟨g, rfl, rfl⟩) | (rintro _ _ ⟨A', c', rfl, rfl⟩))) | ((refine GO2 ?_ ?_) <;> intro h <;> (try (repeat (first | with_reducible (replace h := of_decide_eq_true h) | with_reducible (replace h := of_decide_eq_false h) | with_reducible (replace h := bnt h) | with_reducible (replace h := bnf h) | with_reducible (replace h := Int.not_lt.mp h) | with_reducible (replace h := Int.not_le.mp h) | with_reducible (replace h := band_dec h) | with_reducible (replace h := band_decF h) | with_reducible (replace h := bor_dec h) | with_reducible (replace h := bor_decF h)))) <;> (try (exfalso; first | contradiction | omega))) | ((with_reducible (first | apply TD_e2z | apply TD_e3z | apply TL_e | apply TD_e2 | apply TD_e3)); ((with_reducible apply ES_callOwn (f := 108)); exact rfl; (intro w hw; exact h1 w (hw.rd rfl hT) (hw.rd rfl hA)); exact rfl); (first | exact rfl | exact ⟨rfl, rfl, rfl⟩); (rintro _ _ ⟨A1, c1, rfl, rfl⟩); (try refine ⟨SUB, ?_⟩)) | fail)
    (refine At_ret Try.results55 rfl (fun w' hw => ?_))
    exact ⟨none, 0, rfl, Own.nil _ _, hw.below0 rfl⟩
end
end Go.Proofs.Ytiimjppceobkfaa
