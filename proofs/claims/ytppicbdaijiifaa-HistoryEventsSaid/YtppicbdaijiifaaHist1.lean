/- Histories: the small functions: kinds and types, arguments and results, of the program and of the document. For all numbers. -/
import Derived.Test.YtppicbdaijiifaaBetween
import Derived.Test.YtppicbdaijiifaaEqual
set_option linter.unusedSimpArgs false
set_option linter.unusedVariables false
set_option linter.unusedSectionVars false
set_option linter.unnecessarySimpa false
namespace Go.Proofs.Ytppicbdaijiifaa
open Go.RowKit

def typeF (k : Int) : Int := if k = 1 ∨ k = 2 then 1 else if k = 3 ∨ k = 4 then 2 else if k = 5 ∨ k = 6 then 3 else if k = 7 ∨ k = 8 ∨ k = 9 then 4 else if k = 10 then 5 else 0
def fitsB (t k : Int) : Bool := decide (t ≠ 0 ∧ typeF k = t)
def argB (k n : Int) : Bool := if k = 2 ∨ k = 4 ∨ k = 6 ∨ k = 10 then decide (n = 0) else decide (1 ≤ n ∧ n ≤ 1000)
def resB (k n : Int) : Bool := if k = 2 ∨ k = 10 then decide (0 ≤ n ∧ n ≤ 1000) else if k = 4 ∨ k = 6 then decide (n = -1 ∨ (1 ≤ n ∧ n ≤ 1000)) else if k = 7 ∨ k = 8 ∨ k = 9 then decide (n = 0 ∨ n = 1) else decide (n = 0)
def ansB (k n : Int) : Bool := if k = 2 ∨ k = 10 then decide (0 ≤ n ∧ n ≤ 1000) else if k = 4 ∨ k = 6 then decide (n = -1 ∨ (1 ≤ n ∧ n ≤ 1000)) else if 7 ≤ k then decide (0 ≤ n ∧ n ≤ 1) else decide (n = 0)
def kindsL (t : Int) : List Int := if t = 1 then [1, 2] else if t = 2 then [3, 4] else if t = 3 then [5, 6] else if t = 4 then [7, 8, 9] else if t = 5 then [10] else []

theorem typeF_kinds (t k : Int) : fitsB t k = (kindsL t).contains k := by
  rw [Bool.eq_iff_iff]
  unfold fitsB typeF kindsL
  simp only [decide_eq_true_eq]
  repeat' split
  all_goals (simp only [List.contains_cons, List.contains_nil, Bool.or_eq_true, beq_iff_eq, Bool.false_eq_true, or_false, iff_false, not_and]; omega)
theorem typeF_pos {k t : Int} (h : fitsB t k = true) : 1 ≤ k ∧ k ≤ 10 := by
  unfold fitsB typeF at h
  simp only [decide_eq_true_eq] at h
  obtain ⟨h0, h⟩ := h
  repeat' split at h
  all_goals omega
theorem resB_ansB {k n : Int} (h1 : 1 ≤ k) (h2 : k ≤ 10) : resB k n = ansB k n := by
  unfold resB ansB
  repeat' split
  all_goals first | rfl | omega | (apply decide_eq_decide.2; omega)

theorem typeOf_any (k : Int) (w : World) : Calls Try.prog 80 #[.int .i64 k] w fun e w' => e = .returned (.int .i64 (typeF k)) ∧ w = w' := by
  go_enter Try.func80, Try.ntmps80
  go_wp2
  all_goals
    go_ret
    refine ⟨ret_int ?_, rfl⟩
    simp only [beq_iff_eq, beq_eq_false_iff_ne] at *
    unfold typeF
    repeat' split
    all_goals omega

theorem fits_any (t k : Int) (w : World) : Calls Try.prog 146 #[.int .i64 t, .int .i64 k] w fun e w' => e = .returned (.bool (fitsB t k)) ∧ w = w' := by
  by_cases ht : t = 0
  · subst ht
    go_enter Try.func146, Try.ntmps146
    go_wp2
    go_ret
    simp [fitsB]
  · have ht' : (t != 0) = true := by simpa using ht
    go_enter Try.func146, Try.ntmps146
    go_wp2_with (go_at_call 80; refine (typeOf_any _ _).mono ?_; rintro e w' ⟨rfl, rfl⟩)
    go_ret
    exact ⟨ret_bool (by rw [Bool.eq_iff_iff]; simp [fitsB, ht]), rfl⟩

theorem argument_any (k n : Int) (w : World) : Calls Try.prog 147 #[.int .i64 k, .int .i64 n] w fun e w' => e = .returned (.bool (argB k n)) ∧ w = w' := by
  go_enter Try.func147, Try.ntmps147
  go_wp2
  all_goals
    go_ret
    refine ⟨ret_bool ?_, rfl⟩
    try simp only [beq_iff_eq, beq_eq_false_iff_ne] at *
    rw [Bool.eq_iff_iff]
    unfold argB
    repeat' split
    all_goals first | (simp only [Bool.not_eq_true', Bool.not_eq_false', decide_eq_true_eq, decide_eq_false_iff_not, Bool.and_eq_true, Bool.or_eq_true, Bool.or_eq_false_iff, Bool.and_eq_false_iff, beq_iff_eq, Bool.false_eq_true, false_iff, iff_false, true_iff, iff_true] at *; done) | (simp only [Bool.not_eq_true', Bool.not_eq_false', decide_eq_true_eq, decide_eq_false_iff_not, Bool.and_eq_true, Bool.or_eq_true, Bool.or_eq_false_iff, Bool.and_eq_false_iff, beq_iff_eq, Bool.false_eq_true, false_iff, iff_false, true_iff, iff_true] at *; omega)

theorem result_any (k n : Int) (w : World) : Calls Try.prog 164 #[.int .i64 k, .int .i64 n] w fun e w' => e = .returned (.bool (resB k n)) ∧ w = w' := by
  go_enter Try.func164, Try.ntmps164
  go_wp2
  all_goals
    go_ret
    refine ⟨ret_bool ?_, rfl⟩
    try simp only [beq_iff_eq, beq_eq_false_iff_ne] at *
    rw [Bool.eq_iff_iff]
    unfold resB
    repeat' split
    all_goals first | (simp only [Bool.not_eq_true', Bool.not_eq_false', decide_eq_true_eq, decide_eq_false_iff_not, Bool.and_eq_true, Bool.or_eq_true, Bool.or_eq_false_iff, Bool.and_eq_false_iff, beq_iff_eq, Bool.false_eq_true, false_iff, iff_false, true_iff, iff_true] at *; done) | (simp only [Bool.not_eq_true', Bool.not_eq_false', decide_eq_true_eq, decide_eq_false_iff_not, Bool.and_eq_true, Bool.or_eq_true, Bool.or_eq_false_iff, Bool.and_eq_false_iff, beq_iff_eq, Bool.false_eq_true, false_iff, iff_false, true_iff, iff_true] at *; omega)

theorem answers_any (k n : Int) (w : World) : Calls Try.prog 85 #[.int .i64 k, .int .i64 n] w fun e w' => e = .returned (.bool (ansB k n)) ∧ w = w' := by
  go_enter Try.func85, Try.ntmps85
  go_wp2_with (go_at_call 23; refine (between_any _ _ _ _).mono ?_; rintro e w' ⟨rfl, rfl⟩)
  all_goals
    go_ret
    refine ⟨ret_bool ?_, rfl⟩
    try simp only [beq_iff_eq, beq_eq_false_iff_ne] at *
    rw [Bool.eq_iff_iff]
    unfold ansB
    repeat' split
    all_goals first | (simp only [Bool.not_eq_true', Bool.not_eq_false', decide_eq_true_eq, decide_eq_false_iff_not, Bool.and_eq_true, Bool.or_eq_true, Bool.or_eq_false_iff, Bool.and_eq_false_iff, beq_iff_eq, Bool.false_eq_true, false_iff, iff_false, true_iff, iff_true] at *; done) | (simp only [Bool.not_eq_true', Bool.not_eq_false', decide_eq_true_eq, decide_eq_false_iff_not, Bool.and_eq_true, Bool.or_eq_true, Bool.or_eq_false_iff, Bool.and_eq_false_iff, beq_iff_eq, Bool.false_eq_true, false_iff, iff_false, true_iff, iff_true] at *; omega)
end Go.Proofs.Ytppicbdaijiifaa
