/- Histories: lists of kinds, and what looks through a list of numbers. -/
import Derived.Test.YtppicbdaijiifaaHist1
set_option linter.unusedSimpArgs false
set_option linter.unusedVariables false
set_option linter.unusedSectionVars false
set_option linter.unnecessarySimpa false
namespace Go.Proofs.Ytppicbdaijiifaa
open Go.RowKit

theorem kinds_end {t : Int} {w : World} {l : List Int} {v : Value} (hk : kindsL t = l) (hv : v = .slice (some ⟨w.heap.size, 0, none⟩) l.length l.length) :
    ∃ A c, Ending.returned v = .returned (.slice A (kindsL t).length c) ∧ RdInt (w.alloc (.cells (l.map (Value.int .i64)).toArray 3)) A (kindsL t) ∧ Below w.heap.size w (w.alloc (.cells (l.map (Value.int .i64)).toArray 3)) := by
  subst hk hv
  exact ⟨_, _, rfl, RdInt.of_list (Blk.new _ _ _), by (repeat (first | assumption | exact Below.refl _ _ | refine bel_alloc ?_ _ | refine Below.drew ?_ | refine below_drewN' ?_ _ | (refine bel_set ?_ (by first | (simp; done) | (simp; omega)) _) | (refine bel_row ?_ (by first | (simp; done) | (simp; omega)) _)))⟩
theorem kinds_nil {t : Int} {w : World} {v : Value} (hk : kindsL t = []) (hv : v = .slice none 0 0) :
    ∃ A c, Ending.returned v = .returned (.slice A (kindsL t).length c) ∧ RdInt w A (kindsL t) ∧ Below w.heap.size w w := by
  subst hv
  rw [hk]
  exact ⟨_, _, rfl, RdE.nil _, by (repeat (first | assumption | exact Below.refl _ _ | refine bel_alloc ?_ _ | refine Below.drew ?_ | refine below_drewN' ?_ _ | (refine bel_set ?_ (by first | (simp; done) | (simp; omega)) _) | (refine bel_row ?_ (by first | (simp; done) | (simp; omega)) _)))⟩
theorem kinds_any (t : Int) (w : World) : Calls Try.prog 84 #[.int .i64 t] w fun e w' => ∃ A c, e = .returned (.slice A (kindsL t).length c) ∧ RdInt w' A (kindsL t) ∧ Below w.heap.size w w' := by
  go_enter Try.func84, Try.ntmps84
  go_wp2
  all_goals
    go_ret
    simp only [beq_iff_eq, beq_eq_false_iff_ne] at *
    first
      | (obtain rfl : t = 1 := by assumption
         exact kinds_end (l := [1, 2]) rfl rfl)
      | (obtain rfl : t = 2 := by assumption
         exact kinds_end (l := [3, 4]) rfl rfl)
      | (obtain rfl : t = 3 := by assumption
         exact kinds_end (l := [5, 6]) rfl rfl)
      | (obtain rfl : t = 4 := by assumption
         exact kinds_end (l := [7, 8, 9]) rfl rfl)
      | (obtain rfl : t = 5 := by assumption
         exact kinds_end (l := [10]) rfl rfl)
      | exact kinds_nil (by unfold kindsL; simp only [*, if_false]) rfl

def idxI (l : List Int) (x : Int) : Int := if x ∈ l then (l.idxOf x : Int) else -1
theorem idxI_nn (l : List Int) (x : Int) : decide (0 ≤ idxI l x) = l.contains x := by
  rw [Bool.eq_iff_iff]
  unfold idxI
  by_cases h : x ∈ l <;> simp [h]

set_option maxHeartbeats 2000000 in
theorem index_any (A : Option Addr) (c : Nat) (l : List Int) (x : Int) (w : World) (hl : l.length ≤ 9223372036854775807) (hA : RdInt w A l) :
    Calls Try.prog 137 #[.slice A l.length c, .int .i64 x] w fun e w' => e = .returned (.int .i64 (idxI l x)) ∧ Below w.heap.size w w' := by
  go_enter Try.func137, Try.ntmps137
  go_wp2
  go_loopw [8] (fun i wr => ∃ k : Nat, k ≤ l.length ∧ i = .int .i64 k ∧ Hid (x ∉ l.take k) ∧ Below w.heap.size w wr) (fun i _ => l.length - (intOf i).toNat)
  case atStart => exact ⟨0, by omega, rfl, Lib.hid (by simp), Below.refl _ _⟩
  case round =>
    obtain ⟨k, hk, rfl, hno, hbel⟩ := hrel
    by_cases hlt : k < l.length
    · obtain ⟨b, o, rfl, hb0, hbs, c0⟩ := hA.at_ hbel k hlt
      have hk1 : (k : Int) < (l.length : Int) := by omega
      by_cases he : x = l[k]
      · have hb : (x == l[k]) = true := by simp [he]
        have He := Lib.hid he
        clear he
        go_wp2
        go_ret
        exact ⟨ret_int (by
          have hm : x ∈ l := by rw [He.out]; exact List.getElem_mem _
          unfold idxI
          rw [if_pos hm]
          have : l.idxOf x = k := findIdx_at hlt (by
            rw [List.any_eq_false]
            intro y hy e
            rw [beq_iff_eq] at e
            subst e
            exact hno.out hy) (by simp [He.out])
          rw [this]), by (repeat (first | assumption | exact Below.refl _ _ | refine bel_alloc ?_ _ | refine Below.drew ?_ | refine below_drewN' ?_ _ | (refine bel_set ?_ (by first | (simp; done) | (simp; omega)) _) | (refine bel_row ?_ (by first | (simp; done) | (simp; omega)) _)))⟩
      · have hb : (x == l[k]) = false := by simp [he]
        have He := Lib.hid he
        clear he
        go_wp2
        go_roundw
        case rel => exact ⟨k + 1, by omega, by go_num, Lib.hid (by
          rw [List.take_succ_eq_append_getElem hlt]
          simp only [List.mem_append, List.mem_singleton, not_or]
          exact ⟨hno.out, He.out⟩), by (repeat (first | assumption | exact Below.refl _ _ | refine bel_alloc ?_ _ | refine Below.drew ?_ | refine below_drewN' ?_ _ | (refine bel_set ?_ (by first | (simp; done) | (simp; omega)) _) | (refine bel_row ?_ (by first | (simp; done) | (simp; omega)) _)))⟩
        case measure => simp [intOf]; omega
    · obtain rfl : k = l.length := by omega
      go_wp2
      go_ret
      exact ⟨ret_int (by
        unfold idxI
        rw [if_neg]
        simpa using hno.out), hbel⟩

theorem contains_any (A : Option Addr) (c : Nat) (l : List Int) (x : Int) (w : World) (hl : l.length ≤ 9223372036854775807) (hA : RdInt w A l) :
    Calls Try.prog 83 #[.slice A l.length c, .int .i64 x] w fun e w' => e = .returned (.bool (l.contains x)) ∧ Below w.heap.size w w' := by
  go_enter Try.func83, Try.ntmps83
  go_wp2_with (go_at_call 137; refine (index_any _ _ _ _ _ hl hA).mono ?_; rintro e w' ⟨rfl, hb⟩)
  go_ret
  exact ⟨ret_bool (by rw [← idxI_nn]), by (repeat (first | assumption | exact Below.refl _ _ | refine bel_alloc ?_ _ | refine Below.drew ?_ | refine below_drewN' ?_ _ | (refine bel_set ?_ (by first | (simp; done) | (simp; omega)) _) | (refine bel_row ?_ (by first | (simp; done) | (simp; omega)) _)))⟩

theorem badType_any (t : Int) (w : World) : Calls Try.prog 162 #[.int .i64 t] w fun e w' => e = .returned (.bool (decide (t < 1 ∨ 5 < t))) ∧ w = w' := by
  by_cases h1 : t < 1
  · have hb : decide (t < 1) = true := by simpa using h1
    go_enter Try.func162, Try.ntmps162
    go_wp2
    go_ret
    simp [h1]
  · have hb : decide (t < 1) = false := by simpa using h1
    go_enter Try.func162, Try.ntmps162
    go_wp2
    go_ret
    simp [h1]

def badT (t : Int) : Bool := decide (t < 1 ∨ 5 < t)
set_option maxHeartbeats 2000000 in
theorem indexFunc_any (A : Option Addr) (c : Nat) (l : List Int) (w : World) (hl : l.length ≤ 9223372036854775807) (hA : RdInt w A l) :
    Calls Try.prog 186 #[.slice A l.length c, .func (.func 162) #[] #[]] w fun e w' => (∃ r : Int, e = .returned (.int .i64 r) ∧ decide (0 ≤ r) = l.any badT) ∧ Below w.heap.size w w' := by
  go_enter Try.func186, Try.ntmps186
  go_wp2
  go_loopw [8] (fun i wr => ∃ k : Nat, k ≤ l.length ∧ i = .int .i64 k ∧ Hid ((l.take k).any badT = false) ∧ Below w.heap.size w wr) (fun i _ => l.length - (intOf i).toNat)
  case atStart => exact ⟨0, by omega, rfl, Lib.hid (by simp), Below.refl _ _⟩
  case round =>
    obtain ⟨k, hk, rfl, hno, hbel⟩ := hrel
    by_cases hlt : k < l.length
    · obtain ⟨b, o, rfl, hb0, hbs, c0⟩ := hA.at_ hbel k hlt
      have hk1 : (k : Int) < (l.length : Int) := by omega
      by_cases he : badT l[k] = true
      · have hb : decide (l[k] < 1 ∨ 5 < l[k]) = true := he
        have He := Lib.hid he
        clear he
        go_wp2_with (go_at_call 162; refine (badType_any _ _).mono ?_; rintro e w' ⟨rfl, rfl⟩)
        go_ret
        exact ⟨⟨_, rfl, by
          have : l.any badT = true := List.any_eq_true.2 ⟨l[k], List.getElem_mem _, He.out⟩
          rw [this]; simp⟩, by (repeat (first | assumption | exact Below.refl _ _ | refine bel_alloc ?_ _ | refine Below.drew ?_ | refine below_drewN' ?_ _ | (refine bel_set ?_ (by first | (simp; done) | (simp; omega)) _) | (refine bel_row ?_ (by first | (simp; done) | (simp; omega)) _)))⟩
      · have he' : badT l[k] = false := by simpa using he
        have hb : decide (l[k] < 1 ∨ 5 < l[k]) = false := he'
        have He := Lib.hid he'
        clear he he'
        go_wp2_with (go_at_call 162; refine (badType_any _ _).mono ?_; rintro e w' ⟨rfl, rfl⟩)
        go_roundw
        case rel => exact ⟨k + 1, by omega, by go_num, Lib.hid (any_take_succ' hlt hno.out He.out), by (repeat (first | assumption | exact Below.refl _ _ | refine bel_alloc ?_ _ | refine Below.drew ?_ | refine below_drewN' ?_ _ | (refine bel_set ?_ (by first | (simp; done) | (simp; omega)) _) | (refine bel_row ?_ (by first | (simp; done) | (simp; omega)) _)))⟩
        case measure => simp [intOf]; omega
    · obtain rfl : k = l.length := by omega
      go_wp2
      go_ret
      exact ⟨⟨_, rfl, by have := hno.out; rw [List.take_length] at this; rw [this]; simp⟩, hbel⟩
theorem containsFunc_any (A : Option Addr) (c : Nat) (l : List Int) (w : World) (hl : l.length ≤ 9223372036854775807) (hA : RdInt w A l) :
    Calls Try.prog 163 #[.slice A l.length c, .func (.func 162) #[] #[]] w fun e w' => e = .returned (.bool (l.any badT)) ∧ Below w.heap.size w w' := by
  go_enter Try.func163, Try.ntmps163
  go_wp2_with (go_at_call 186; refine (indexFunc_any _ _ _ _ hl hA).mono ?_; rintro e w' ⟨⟨r, rfl, hr⟩, hb⟩)
  go_ret
  exact ⟨rfl, by assumption⟩

def typesOk (l : List Int) : Bool := decide (1 ≤ l.length ∧ l.length ≤ 4) && !l.any badT
def typesE (l : List Int) : Int := if typesOk l then 0 else 1
set_option maxHeartbeats 2000000 in
theorem types_any (A : Option Addr) (c : Nat) (l : List Int) (w : World) (hl : l.length ≤ 9223372036854775807) (hA : RdInt w A l) :
    Calls Try.prog 135 #[.slice A l.length c] w fun e w' => e = .returned (.int .i64 (typesE l)) ∧ Below w.heap.size w w' := by
  by_cases h1 : l.length < 1
  · have hb : decide ((l.length : Int) < 1) = true := by simp; omega
    have hk : typesOk l = false := by simp [typesOk]; omega
    go_enter Try.func135, Try.ntmps135
    go_wp2
    go_ret
    exact ⟨ret_int (by simp [typesE, hk]), by (repeat (first | assumption | exact Below.refl _ _ | refine bel_alloc ?_ _ | refine Below.drew ?_ | refine below_drewN' ?_ _ | (refine bel_set ?_ (by first | (simp; done) | (simp; omega)) _) | (refine bel_row ?_ (by first | (simp; done) | (simp; omega)) _)))⟩
  · by_cases h2 : 4 < l.length
    · have hb : decide ((l.length : Int) < 1) = false := by simp; omega
      have hb2 : decide (4 < (l.length : Int)) = true := by simp; omega
      have hk : typesOk l = false := by simp [typesOk]; omega
      go_enter Try.func135, Try.ntmps135
      go_wp2
      go_ret
      exact ⟨ret_int (by simp [typesE, hk]), by (repeat (first | assumption | exact Below.refl _ _ | refine bel_alloc ?_ _ | refine Below.drew ?_ | refine below_drewN' ?_ _ | (refine bel_set ?_ (by first | (simp; done) | (simp; omega)) _) | (refine bel_row ?_ (by first | (simp; done) | (simp; omega)) _)))⟩
    · have hb : decide ((l.length : Int) < 1) = false := by simp; omega
      have hb2 : decide (4 < (l.length : Int)) = false := by simp; omega
      have hk : typesOk l = !l.any badT := by simp [typesOk]; omega
      have Hk := Lib.hid hk
      clear hk
      go_enter Try.func135, Try.ntmps135
      go_wp2_with (go_at_call 163; refine (containsFunc_any _ _ _ _ hl hA).mono ?_; rintro e w' ⟨rfl, hb⟩)
      all_goals
        go_ret
        exact ⟨ret_int (by rw [typesE, Hk.out]; simp [*]), by assumption⟩

theorem asks_eq (k n : Int) : argB k n = if [2, 4, 6, 10].contains k then decide (n = 0) else decide (1 ≤ n ∧ n ≤ 1000) := by
  unfold argB
  by_cases h : k = 2 ∨ k = 4 ∨ k = 6 ∨ k = 10
  · rw [if_pos h, if_pos (by simpa using h)]
  · rw [if_neg h, if_neg (by simpa using h)]
theorem asks_any (k n : Int) (w : World) :
    Calls Try.prog 86 #[.int .i64 k, .int .i64 n] w fun e w' => e = .returned (.bool (argB k n)) ∧ Below w.heap.size w w' := by
  have R := RdInt.of_list (l := [2, 4, 6, 10]) (Blk.new w 3 _)
  rw [asks_eq]
  by_cases hc : [2, 4, 6, 10].contains k = true
  · rw [if_pos hc]
    go_enter Try.func86, Try.ntmps86
    go_wp2_with (go_at_call 83; refine (contains_any _ _ [2, 4, 6, 10] _ _ (by decide) R).mono ?_; rintro e w' ⟨rfl, hb⟩; rw [hc])
    go_ret
    exact ⟨rfl, bel_trans (bel_alloc (Below.refl _ _) _) hb⟩
  · rw [if_neg hc]
    have hc' : [2, 4, 6, 10].contains k = false := by simpa using hc
    clear hc
    go_enter Try.func86, Try.ntmps86
    go_wp2_with (first | (go_at_call 83; refine (contains_any _ _ [2, 4, 6, 10] _ _ (by decide) R).mono ?_; rintro e w' ⟨rfl, hb⟩; rw [hc']) | (go_at_call 23; refine (between_any _ _ _ _).mono ?_; rintro e w' ⟨rfl, rfl⟩))
    go_ret
    exact ⟨ret_bool (by rw [Bool.eq_iff_iff]; simp), bel_trans (bel_alloc (Below.refl _ _) _) hb⟩
end Go.Proofs.Ytppicbdaijiifaa
