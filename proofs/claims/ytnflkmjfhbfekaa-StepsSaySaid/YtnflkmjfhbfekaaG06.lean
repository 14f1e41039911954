/- Lemmas for the walks (Hist2, Hist3). No condition. -/
import Derived.Test.YtnflkmjfhbfekaaG01
import Derived.Test.YtnflkmjfhbfekaaG02
import Derived.Deep.RegionHeld3
import Derived.Deep.AppendLies
import Derived.Deep.DrawnRows
import Derived.BigRegion
set_option linter.unusedSimpArgs false
set_option linter.unusedVariables false
set_option linter.unusedSectionVars false
set_option linter.unnecessarySimpa false
namespace Go.Proofs.Ytnflkmjfhbfekaa
open Go.RowKit

theorem kinds_end {t : Int} {w : World} {l : List Int} {v : Value} (hk : kindsL t = l) (hv : v = .slice (some ⟨w.heap.size, 0, none⟩) l.length l.length) :
    ∃ A c, Ending.returned v = .returned (.slice A (kindsL t).length c) ∧ RdInt (w.alloc (.cells (l.map (Value.int .i64)).toArray 3)) A (kindsL t) ∧ Below w.heap.size w (w.alloc (.cells (l.map (Value.int .i64)).toArray 3)) := by
  subst hk hv
  exact ⟨_, _, rfl, RdInt.of_list (Blk.new _ _ _), by (repeat (first | assumption | exact Below.refl _ _ | refine bel_alloc ?_ _ | refine Below.drew ?_ | refine below_drewN' ?_ _ | (refine bel_set ?_ (by first | (simp; done) | (simp; omega)) _) | (refine bel_row ?_ (by first | (simp; done) | (simp; omega)) _)))⟩
theorem kinds_nil {t : Int} {w : World} {v : Value} (hk : kindsL t = []) (hv : v = .slice none 0 0) :
    ∃ A c, Ending.returned v = .returned (.slice A (kindsL t).length c) ∧ RdInt w A (kindsL t) ∧ Below w.heap.size w w := by
  subst hv
  rw [hk]
  exact ⟨_, _, rfl, RdE.nil _, by (repeat (first | assumption | exact Below.refl _ _ | refine bel_alloc ?_ _ | refine Below.drew ?_ | refine below_drewN' ?_ _ | (refine bel_set ?_ (by first | (simp; done) | (simp; omega)) _) | (refine bel_row ?_ (by first | (simp; done) | (simp; omega)) _)))⟩
theorem kinds_any (t : Int) (w : World) : Calls Try.prog 59 #[.int .i64 t] w fun e w' => ∃ A c, e = .returned (.slice A (kindsL t).length c) ∧ RdInt w' A (kindsL t) ∧ Below w.heap.size w w' := by
  go_enter Try.func59, Try.ntmps59
  go_wp2
  all_goals
    go_ret
    simp only [beq_iff_eq, beq_eq_false_iff_ne] at *
    first
      | (obtain rfl : t = 1 := by assumption
         exact kinds_end (l := [1, 2]) rfl rfl)
      | (obtain rfl : t = 2 := by assumption
         exact kinds_end (l := [3, 4]) rfl rfl)
      | (obtain rfl : t = 3 := by assumption
         exact kinds_end (l := [5, 6]) rfl rfl)
      | (obtain rfl : t = 4 := by assumption
         exact kinds_end (l := [7, 8, 9]) rfl rfl)
      | (obtain rfl : t = 5 := by assumption
         exact kinds_end (l := [10]) rfl rfl)
      | exact kinds_nil (by unfold kindsL; simp only [*, if_false]) rfl

def idxI (l : List Int) (x : Int) : Int := if x ∈ l then (l.idxOf x : Int) else -1
theorem idxI_nn (l : List Int) (x : Int) : decide (0 ≤ idxI l x) = l.contains x := by
  rw [Bool.eq_iff_iff]
  unfold idxI
  by_cases h : x ∈ l <;> simp [h]

set_option maxHeartbeats 2000000 in
theorem index_any (A : Option Addr) (c : Nat) (l : List Int) (x : Int) (w : World) (hl : l.length ≤ 9223372036854775807) (hA : RdInt w A l) :
    Calls Try.prog 89 #[.slice A l.length c, .int .i64 x] w fun e w' => e = .returned (.int .i64 (idxI l x)) ∧ Below w.heap.size w w' := by
  go_enter Try.func89, Try.ntmps89
  go_wp2
  go_loopw [8] (fun i wr => ∃ k : Nat, k ≤ l.length ∧ i = .int .i64 k ∧ Hid (x ∉ l.take k) ∧ Below w.heap.size w wr) (fun i _ => l.length - (intOf i).toNat)
  case atStart => exact ⟨0, by omega, rfl, Lib.hid (by simp), Below.refl _ _⟩
  case round =>
    obtain ⟨k, hk, rfl, hno, hbel⟩ := hrel
    by_cases hlt : k < l.length
    · obtain ⟨b, o, rfl, hb0, hbs, c0⟩ := hA.at_ hbel k hlt
      have hk1 : (k : Int) < (l.length : Int) := by omega
      by_cases he : x = l[k]
      · have hb : (x == l[k]) = true := by simp [he]
        have He := Lib.hid he
        clear he
        go_wp2
        go_ret
        exact ⟨ret_int (by
          have hm : x ∈ l := by rw [He.out]; exact List.getElem_mem _
          unfold idxI
          rw [if_pos hm]
          have : l.idxOf x = k := findIdx_at hlt (by
            rw [List.any_eq_false]
            intro y hy e
            rw [beq_iff_eq] at e
            subst e
            exact hno.out hy) (by simp [He.out])
          rw [this]), by (repeat (first | assumption | exact Below.refl _ _ | refine bel_alloc ?_ _ | refine Below.drew ?_ | refine below_drewN' ?_ _ | (refine bel_set ?_ (by first | (simp; done) | (simp; omega)) _) | (refine bel_row ?_ (by first | (simp; done) | (simp; omega)) _)))⟩
      · have hb : (x == l[k]) = false := by simp [he]
        have He := Lib.hid he
        clear he
        go_wp2
        go_roundw
        case rel => exact ⟨k + 1, by omega, by go_num, Lib.hid (by
          rw [List.take_succ_eq_append_getElem hlt]
          simp only [List.mem_append, List.mem_singleton, not_or]
          exact ⟨hno.out, He.out⟩), by (repeat (first | assumption | exact Below.refl _ _ | refine bel_alloc ?_ _ | refine Below.drew ?_ | refine below_drewN' ?_ _ | (refine bel_set ?_ (by first | (simp; done) | (simp; omega)) _) | (refine bel_row ?_ (by first | (simp; done) | (simp; omega)) _)))⟩
        case measure => simp [intOf]; omega
    · obtain rfl : k = l.length := by omega
      go_wp2
      go_ret
      exact ⟨ret_int (by
        unfold idxI
        rw [if_neg]
        simpa using hno.out), hbel⟩

theorem contains_any (A : Option Addr) (c : Nat) (l : List Int) (x : Int) (w : World) (hl : l.length ≤ 9223372036854775807) (hA : RdInt w A l) :
    Calls Try.prog 58 #[.slice A l.length c, .int .i64 x] w fun e w' => e = .returned (.bool (l.contains x)) ∧ Below w.heap.size w w' := by
  go_enter Try.func58, Try.ntmps58
  go_wp2_with (go_at_call 89; refine (index_any _ _ _ _ _ hl hA).mono ?_; rintro e w' ⟨rfl, hb⟩)
  go_ret
  exact ⟨ret_bool (by rw [← idxI_nn]), by (repeat (first | assumption | exact Below.refl _ _ | refine bel_alloc ?_ _ | refine Below.drew ?_ | refine below_drewN' ?_ _ | (refine bel_set ?_ (by first | (simp; done) | (simp; omega)) _) | (refine bel_row ?_ (by first | (simp; done) | (simp; omega)) _)))⟩

theorem badType_any (t : Int) (w : World) : Calls Try.prog 92 #[.int .i64 t] w fun e w' => e = .returned (.bool (decide (t < 1 ∨ 5 < t))) ∧ w = w' := by
  by_cases h1 : t < 1
  · have hb : decide (t < 1) = true := by simpa using h1
    go_enter Try.func92, Try.ntmps92
    go_wp2
    go_ret
    simp [h1]
  · have hb : decide (t < 1) = false := by simpa using h1
    go_enter Try.func92, Try.ntmps92
    go_wp2
    go_ret
    simp [h1]

def badT (t : Int) : Bool := decide (t < 1 ∨ 5 < t)
set_option maxHeartbeats 2000000 in
theorem indexFunc_any (A : Option Addr) (c : Nat) (l : List Int) (w : World) (hl : l.length ≤ 9223372036854775807) (hA : RdInt w A l) :
    Calls Try.prog 111 #[.slice A l.length c, .func (.func 92) #[] #[]] w fun e w' => (∃ r : Int, e = .returned (.int .i64 r) ∧ decide (0 ≤ r) = l.any badT) ∧ Below w.heap.size w w' := by
  go_enter Try.func111, Try.ntmps111
  go_wp2
  go_loopw [8] (fun i wr => ∃ k : Nat, k ≤ l.length ∧ i = .int .i64 k ∧ Hid ((l.take k).any badT = false) ∧ Below w.heap.size w wr) (fun i _ => l.length - (intOf i).toNat)
  case atStart => exact ⟨0, by omega, rfl, Lib.hid (by simp), Below.refl _ _⟩
  case round =>
    obtain ⟨k, hk, rfl, hno, hbel⟩ := hrel
    by_cases hlt : k < l.length
    · obtain ⟨b, o, rfl, hb0, hbs, c0⟩ := hA.at_ hbel k hlt
      have hk1 : (k : Int) < (l.length : Int) := by omega
      by_cases he : badT l[k] = true
      · have hb : decide (l[k] < 1 ∨ 5 < l[k]) = true := he
        have He := Lib.hid he
        clear he
        go_wp2_with (go_at_call 92; refine (badType_any _ _).mono ?_; rintro e w' ⟨rfl, rfl⟩)
        go_ret
        exact ⟨⟨_, rfl, by
          have : l.any badT = true := List.any_eq_true.2 ⟨l[k], List.getElem_mem _, He.out⟩
          rw [this]; simp⟩, by (repeat (first | assumption | exact Below.refl _ _ | refine bel_alloc ?_ _ | refine Below.drew ?_ | refine below_drewN' ?_ _ | (refine bel_set ?_ (by first | (simp; done) | (simp; omega)) _) | (refine bel_row ?_ (by first | (simp; done) | (simp; omega)) _)))⟩
      · have he' : badT l[k] = false := by simpa using he
        have hb : decide (l[k] < 1 ∨ 5 < l[k]) = false := he'
        have He := Lib.hid he'
        clear he he'
        go_wp2_with (go_at_call 92; refine (badType_any _ _).mono ?_; rintro e w' ⟨rfl, rfl⟩)
        go_roundw
        case rel => exact ⟨k + 1, by omega, by go_num, Lib.hid (any_take_succ' hlt hno.out He.out), by (repeat (first | assumption | exact Below.refl _ _ | refine bel_alloc ?_ _ | refine Below.drew ?_ | refine below_drewN' ?_ _ | (refine bel_set ?_ (by first | (simp; done) | (simp; omega)) _) | (refine bel_row ?_ (by first | (simp; done) | (simp; omega)) _)))⟩
        case measure => simp [intOf]; omega
    · obtain rfl : k = l.length := by omega
      go_wp2
      go_ret
      exact ⟨⟨_, rfl, by have := hno.out; rw [List.take_length] at this; rw [this]; simp⟩, hbel⟩
theorem containsFunc_any (A : Option Addr) (c : Nat) (l : List Int) (w : World) (hl : l.length ≤ 9223372036854775807) (hA : RdInt w A l) :
    Calls Try.prog 93 #[.slice A l.length c, .func (.func 92) #[] #[]] w fun e w' => e = .returned (.bool (l.any badT)) ∧ Below w.heap.size w w' := by
  go_enter Try.func93, Try.ntmps93
  go_wp2_with (go_at_call 111; refine (indexFunc_any _ _ _ _ hl hA).mono ?_; rintro e w' ⟨⟨r, rfl, hr⟩, hb⟩)
  go_ret
  exact ⟨rfl, by assumption⟩

def typesOk (l : List Int) : Bool := decide (1 ≤ l.length ∧ l.length ≤ 4) && !l.any badT
def typesE (l : List Int) : Int := if typesOk l then 0 else 1
set_option maxHeartbeats 2000000 in
theorem types_any (A : Option Addr) (c : Nat) (l : List Int) (w : World) (hl : l.length ≤ 9223372036854775807) (hA : RdInt w A l) :
    Calls Try.prog 68 #[.slice A l.length c] w fun e w' => e = .returned (.int .i64 (typesE l)) ∧ Below w.heap.size w w' := by
  by_cases h1 : l.length < 1
  · have hb : decide ((l.length : Int) < 1) = true := by simp; omega
    have hk : typesOk l = false := by simp [typesOk]; omega
    go_enter Try.func68, Try.ntmps68
    go_wp2
    go_ret
    exact ⟨ret_int (by simp [typesE, hk]), by (repeat (first | assumption | exact Below.refl _ _ | refine bel_alloc ?_ _ | refine Below.drew ?_ | refine below_drewN' ?_ _ | (refine bel_set ?_ (by first | (simp; done) | (simp; omega)) _) | (refine bel_row ?_ (by first | (simp; done) | (simp; omega)) _)))⟩
  · by_cases h2 : 4 < l.length
    · have hb : decide ((l.length : Int) < 1) = false := by simp; omega
      have hb2 : decide (4 < (l.length : Int)) = true := by simp; omega
      have hk : typesOk l = false := by simp [typesOk]; omega
      go_enter Try.func68, Try.ntmps68
      go_wp2
      go_ret
      exact ⟨ret_int (by simp [typesE, hk]), by (repeat (first | assumption | exact Below.refl _ _ | refine bel_alloc ?_ _ | refine Below.drew ?_ | refine below_drewN' ?_ _ | (refine bel_set ?_ (by first | (simp; done) | (simp; omega)) _) | (refine bel_row ?_ (by first | (simp; done) | (simp; omega)) _)))⟩
    · have hb : decide ((l.length : Int) < 1) = false := by simp; omega
      have hb2 : decide (4 < (l.length : Int)) = false := by simp; omega
      have hk : typesOk l = !l.any badT := by simp [typesOk]; omega
      have Hk := Lib.hid hk
      clear hk
      go_enter Try.func68, Try.ntmps68
      go_wp2_with (go_at_call 93; refine (containsFunc_any _ _ _ _ hl hA).mono ?_; rintro e w' ⟨rfl, hb⟩)
      all_goals
        go_ret
        exact ⟨ret_int (by rw [typesE, Hk.out]; simp [*]), by assumption⟩

theorem asks_eq (k n : Int) : argB k n = if [2, 4, 6, 10].contains k then decide (n = 0) else decide (1 ≤ n ∧ n ≤ 1000) := by
  unfold argB
  by_cases h : k = 2 ∨ k = 4 ∨ k = 6 ∨ k = 10
  · rw [if_pos h, if_pos (by simpa using h)]
  · rw [if_neg h, if_neg (by simpa using h)]
theorem asks_any (k n : Int) (w : World) :
    Calls Try.prog 60 #[.int .i64 k, .int .i64 n] w fun e w' => e = .returned (.bool (argB k n)) ∧ Below w.heap.size w w' := by
  have R := RdInt.of_list (l := [2, 4, 6, 10]) (Blk.new w 3 _)
  rw [asks_eq]
  by_cases hc : [2, 4, 6, 10].contains k = true
  · rw [if_pos hc]
    go_enter Try.func60, Try.ntmps60
    go_wp2_with (go_at_call 58; refine (contains_any _ _ [2, 4, 6, 10] _ _ (by decide) R).mono ?_; rintro e w' ⟨rfl, hb⟩; rw [hc])
    go_ret
    exact ⟨rfl, bel_trans (bel_alloc (Below.refl _ _) _) hb⟩
  · rw [if_neg hc]
    have hc' : [2, 4, 6, 10].contains k = false := by simpa using hc
    clear hc
    go_enter Try.func60, Try.ntmps60
    go_wp2_with (first | (go_at_call 58; refine (contains_any _ _ [2, 4, 6, 10] _ _ (by decide) R).mono ?_; rintro e w' ⟨rfl, hb⟩; rw [hc']) | (go_at_call 27; refine (between_any _ _ _ _).mono ?_; rintro e w' ⟨rfl, rfl⟩))
    go_ret
    exact ⟨ret_bool (by rw [Bool.eq_iff_iff]; simp), bel_trans (bel_alloc (Below.refl _ _) _) hb⟩
end Go.Proofs.Ytnflkmjfhbfekaa

namespace Go.Proofs.Ytnflkmjfhbfekaa
open Go.RowKit

structure Ev where
  who : Int
  thing : Int
  kind : Int
  value : Int
deriving DecidableEq
structure Cl where
  who : Int
  thing : Int
  kind : Int
  arg : Int
  res : Int
  from_ : Int
  to : Int
deriving DecidableEq
instance : Inhabited Cl := ⟨⟨0, 0, 0, 0, 0, 0, 0⟩⟩
def Ev.enc (v : Ev) : List Value := [.int .i64 v.who, .int .i64 v.thing, .int .i64 v.kind, .int .i64 v.value]
def Cl.enc (v : Cl) : List Value := [.int .i64 v.who, .int .i64 v.thing, .int .i64 v.kind, .int .i64 v.arg, .int .i64 v.res, .int .i64 v.from_, .int .i64 v.to]
def RdEv (w : World) (A : Option Addr) (l : List Ev) : Prop := RdE Ev.enc 4 w A l
def RdCl (w : World) (A : Option Addr) (l : List Cl) : Prop := RdE Cl.enc 7 w A l

def formBad (ts : List Int) (v : Ev) : Bool := decide (v.who < 0) || decide (8 ≤ v.who) || decide (v.thing < 0) || decide ((ts.length : Int) ≤ v.thing)
def rdCells (t v : Value) (op : Nat → Int) : Array Value := (t :: v :: (List.range 8).map fun i => Value.int .i64 (op i)).toArray
theorem rdCells_0 (t v : Value) (op : Nat → Int) : (rdCells t v op)[0]? = some t := rfl
theorem rdCells_1 (t v : Value) (op : Nat → Int) : (rdCells t v op)[1]? = some v := rfl
theorem rdCells_at (t v : Value) (op : Nat → Int) (i : Nat) (h : i < 8) : (rdCells t v op)[2 + i]? = some (.int .i64 (op i)) := by
  simp [rdCells, Nat.add_comm 2 i, h]
theorem evCells (v : Ev) : Ev.enc v = [.int .i64 v.who, .int .i64 v.thing, .int .i64 v.kind, .int .i64 v.value] := rfl

theorem Calls.quiet_same {P : Program} {f : FuncId} {args : Array Value} {w : World} {a n : Nat} {v : Value}
    (h : Calls P f args (w.drewN (a + n)) fun e w' => e = .returned v ∧ w' = w.drewN (a + n)) : Calls P f args (w.drewN (a + n)) fun e w'' => e = .returned v ∧ ∃ m, w'' = w.drewN (a + m) :=
  h.mono fun _ _ ⟨he, hm⟩ => ⟨he, n, hm⟩
theorem fits_is {t k : Int} {b : Bool} (h : fitsB t k = b) (w : World) : Calls Try.prog 69 #[.int .i64 t, .int .i64 k] w fun e w' => e = .returned (.bool b) ∧ w' = w :=
  (fits_any t k w).mono fun e w' ⟨he, hw⟩ => ⟨by rw [he, h], hw.symm⟩
theorem argument_is {t k : Int} {b : Bool} (h : argB t k = b) (w : World) : Calls Try.prog 70 #[.int .i64 t, .int .i64 k] w fun e w' => e = .returned (.bool b) ∧ w' = w :=
  (argument_any t k w).mono fun e w' ⟨he, hw⟩ => ⟨by rw [he, h], hw.symm⟩
theorem result_is {t k : Int} {b : Bool} (h : resB t k = b) (w : World) : Calls Try.prog 105 #[.int .i64 t, .int .i64 k] w fun e w' => e = .returned (.bool b) ∧ w' = w :=
  (result_any t k w).mono fun e w' ⟨he, hw⟩ => ⟨by rw [he, h], hw.symm⟩

set_option maxHeartbeats 2000000 in
theorem event_form (r : Nat) (T : Option Addr) (c : Nat) (ts : List Int) (v : Value) (op : Nat → Int) (i : Int) (x : Ev) (w : World) (hl : ts.length ≤ 9223372036854775807)
    (hb : Blk w r 178 (rdCells (.slice T ts.length c) v op)) (hbad : formBad ts x = true) :
    Calls Try.prog 82 #[.pointer (some ⟨r, 0, none⟩), .int .i64 i, .agg (Ev.enc x).toArray] w fun e w' => e = .returned (.int .i64 3) ∧ Below w.heap.size w w' := by
  obtain ⟨who, thing, kind, value⟩ := x
  simp only [formBad, Bool.not_eq_true', Bool.not_eq_false', decide_eq_true_eq, decide_eq_false_iff_not, Bool.and_eq_true, Bool.or_eq_true, Bool.or_eq_false_iff, Bool.and_eq_false_iff] at hbad
  simp only [evCells]
  have c0 := (hb.cell 0).trans (rdCells_0 _ _ _)
  have l0 := hb.lt
  have q0 := World.new_ne w ⟨r, 0, none⟩ c0
  by_cases h1 : who < 0
  · have d1 : decide (who < 0) = true := by simpa using h1
    clear hbad
    go_enter Try.func82, Try.ntmps82
    go_wp2_with (fail)
    go_quiet (fail)
    go_wp2_with (fail)
    go_ret
    exact ⟨rfl, by (repeat (first | assumption | exact Below.refl _ _ | refine bel_alloc ?_ _ | refine Below.drew ?_ | refine below_drewN' ?_ _ | (refine bel_set ?_ (by first | (simp; done) | (simp; omega)) _) | (refine bel_row ?_ (by first | (simp; done) | (simp; omega)) _)))⟩
  · have d1 : decide (who < 0) = false := by simpa using h1
    by_cases h2 : 8 ≤ who
    · have d2 : decide (8 ≤ who) = true := by simpa using h2
      clear hbad
      go_enter Try.func82, Try.ntmps82
      go_wp2_with (fail)
      go_quiet (fail)
      go_wp2_with (fail)
      go_ret
      exact ⟨rfl, by (repeat (first | assumption | exact Below.refl _ _ | refine bel_alloc ?_ _ | refine Below.drew ?_ | refine below_drewN' ?_ _ | (refine bel_set ?_ (by first | (simp; done) | (simp; omega)) _) | (refine bel_row ?_ (by first | (simp; done) | (simp; omega)) _)))⟩
    · have d2 : decide (8 ≤ who) = false := by simpa using h2
      by_cases h3 : thing < 0
      · have d3 : decide (thing < 0) = true := by simpa using h3
        clear hbad
        go_enter Try.func82, Try.ntmps82
        go_wp2_with (fail)
        go_quiet (fail)
        go_wp2_with (fail)
        go_ret
        exact ⟨rfl, by (repeat (first | assumption | exact Below.refl _ _ | refine bel_alloc ?_ _ | refine Below.drew ?_ | refine below_drewN' ?_ _ | (refine bel_set ?_ (by first | (simp; done) | (simp; omega)) _) | (refine bel_row ?_ (by first | (simp; done) | (simp; omega)) _)))⟩
      · have d3 : decide (thing < 0) = false := by simpa using h3
        have d4 : decide ((ts.length : Int) ≤ thing) = true := by simp; omega
        clear hbad
        go_enter Try.func82, Try.ntmps82
        go_wp2_with (fail)
        go_quiet (fail)
        go_wp2_with (fail)
        go_ret
        exact ⟨rfl, by (repeat (first | assumption | exact Below.refl _ _ | refine bel_alloc ?_ _ | refine Below.drew ?_ | refine below_drewN' ?_ _ | (refine bel_set ?_ (by first | (simp; done) | (simp; omega)) _) | (refine bel_row ?_ (by first | (simp; done) | (simp; omega)) _)))⟩
set_option maxHeartbeats 2000000 in
theorem event_call_bad (r : Nat) (T : Option Addr) (c : Nat) (ts : List Int) (v : Value) (op : Nat → Int) (i : Int) (k t : Nat) (kind value : Int) (w : World) (hl : ts.length ≤ 9223372036854775807) (hk : k < 8) (ht : t < ts.length)
    (hb : Blk w r 178 (rdCells (.slice T ts.length c) v op)) (hT : RdInt w T ts) (hkind : (kind != 0) = true) (hbad : (fitsB ts[t] kind && argB kind value) = false) :
    Calls Try.prog 82 #[.pointer (some ⟨r, 0, none⟩), .int .i64 i, .agg (Ev.enc ⟨k, t, kind, value⟩).toArray] w fun e w' => e = .returned (.int .i64 3) ∧ Below w.heap.size w w' := by
  simp only [evCells]
  have c0 := (hb.cell 0).trans (rdCells_0 _ _ _)
  have c2 := (hb.cell (2 + k)).trans (rdCells_at _ _ _ k hk)
  have l0 := hb.lt
  have hk0 : (0 : Int) ≤ k := by omega
  have hk8 : (k : Int) < 8 := by omega
  have ht0 : (0 : Int) ≤ t := by omega
  have ht8 : (t : Int) < ts.length := by omega
  have d1 : decide ((k : Int) < 0) = false := by simp
  have d2 : decide ((8 : Int) ≤ k) = false := by simp; omega
  have d3 : decide ((t : Int) < 0) = false := by simp
  have d4 : decide ((ts.length : Int) ≤ t) = false := by simp; omega
  obtain ⟨b, o, rfl, hb0, hbs, t0⟩ := hT.at_ (Below.refl _ _) t ht
  by_cases hf : fitsB ts[t] kind = true
  · have ha : argB kind value = false := by simpa [hf] using hbad
    clear hbad hb hT
    go_enter Try.func82, Try.ntmps82
    go_wp2_with (fail)
    go_quiet (fail)
    go_wp2_with (fail)
    go_quiet (fail)
    go_wp2_with (fail)
    go_quiet (first | (go_at_call 69; (first | exact Calls.quiet_of_same (fits_is (by assumption) _) | exact Calls.quiet_same (fits_is (by assumption) _))) | (go_at_call 70; (first | exact Calls.quiet_of_same (argument_is (by assumption) _) | exact Calls.quiet_same (argument_is (by assumption) _))))
    go_wp2_with (fail)
    go_ret
    exact ⟨rfl, by (repeat (first | assumption | exact Below.refl _ _ | refine bel_alloc ?_ _ | refine Below.drew ?_ | refine below_drewN' ?_ _ | (refine bel_set ?_ (by first | (simp; done) | (simp; omega)) _) | (refine bel_row ?_ (by first | (simp; done) | (simp; omega)) _)))⟩
  · have hf' : fitsB ts[t] kind = false := by simpa using hf
    clear hbad hb hT hf
    go_enter Try.func82, Try.ntmps82
    go_wp2_with (fail)
    go_quiet (fail)
    go_wp2_with (fail)
    go_quiet (fail)
    go_wp2_with (fail)
    go_quiet ((go_at_call 69; (first | exact Calls.quiet_of_same (fits_is (by assumption) _) | exact Calls.quiet_same (fits_is (by assumption) _))))
    go_wp2_with (fail)
    go_ret
    exact ⟨rfl, by (repeat (first | assumption | exact Below.refl _ _ | refine bel_alloc ?_ _ | refine Below.drew ?_ | refine below_drewN' ?_ _ | (refine bel_set ?_ (by first | (simp; done) | (simp; omega)) _) | (refine bel_row ?_ (by first | (simp; done) | (simp; omega)) _)))⟩
theorem Cl.len (x : Cl) : (Cl.enc x).length = 7 := rfl
/-- the call's own list of calls -/
def OwnCl (w : World) (B : Nat) (v : Value) (l : List Cl) : Prop := Own Cl.enc 7 132 w B v l

set_option maxHeartbeats 2000000 in
theorem event_twice (r : Nat) (T : Option Addr) (c : Nat) (ts : List Int) (v : Value) (op : Nat → Int) (i : Int) (k t : Nat) (kind value : Int) (w : World) (hl : ts.length ≤ 9223372036854775807) (hk : k < 8) (ht : t < ts.length)
    (hb : Blk w r 178 (rdCells (.slice T ts.length c) v op)) (hT : RdInt w T ts) (hkind : (kind != 0) = true) (hf : fitsB ts[t] kind = true) (ha : argB kind value = true) (hop : 0 < op k) :
    Calls Try.prog 82 #[.pointer (some ⟨r, 0, none⟩), .int .i64 i, .agg (Ev.enc ⟨k, t, kind, value⟩).toArray] w fun e w' => e = .returned (.int .i64 5) ∧ Below w.heap.size w w' := by
  simp only [evCells]
  have c0 := (hb.cell 0).trans (rdCells_0 _ _ _)
  have c2 := (hb.cell (2 + k)).trans (rdCells_at _ _ _ k hk)
  have l0 := hb.lt
  have hk0 : (0 : Int) ≤ k := by omega
  have hk8 : (k : Int) < 8 := by omega
  have ht0 : (0 : Int) ≤ t := by omega
  have ht8 : (t : Int) < ts.length := by omega
  have d1 : decide ((k : Int) < 0) = false := by simp
  have d2 : decide ((8 : Int) ≤ k) = false := by simp; omega
  have d3 : decide ((t : Int) < 0) = false := by simp
  have d4 : decide ((ts.length : Int) ≤ t) = false := by simp; omega
  obtain ⟨b, o, rfl, hb0, hbs, t0⟩ := hT.at_ (Below.refl _ _) t ht
  clear hb hT
  go_enter Try.func82, Try.ntmps82
  go_wp2_with (fail)
  go_quiet (fail)
  go_wp2_with (fail)
  go_quiet (fail)
  go_wp2_with (fail)
  go_quiet (first | (go_at_call 69; (first | exact Calls.quiet_of_same (fits_is (by assumption) _) | exact Calls.quiet_same (fits_is (by assumption) _))) | (go_at_call 70; (first | exact Calls.quiet_of_same (argument_is (by assumption) _) | exact Calls.quiet_same (argument_is (by assumption) _))))
  go_wp2_with (fail)
  go_ret
  exact ⟨rfl, by (repeat (first | assumption | exact Below.refl _ _ | refine bel_alloc ?_ _ | refine Below.drew ?_ | refine below_drewN' ?_ _ | (refine bel_set ?_ (by first | (simp; done) | (simp; omega)) _) | (refine bel_row ?_ (by first | (simp; done) | (simp; omega)) _)))⟩

set_option maxHeartbeats 2000000 in
theorem event_none (r : Nat) (T : Option Addr) (c : Nat) (ts : List Int) (v : Value) (op : Nat → Int) (i : Int) (k t : Nat) (value : Int) (w : World) (hl : ts.length ≤ 9223372036854775807) (hk : k < 8) (ht : t < ts.length)
    (hb : Blk w r 178 (rdCells (.slice T ts.length c) v op)) (hop : op k = 0) :
    Calls Try.prog 82 #[.pointer (some ⟨r, 0, none⟩), .int .i64 i, .agg (Ev.enc ⟨k, t, 0, value⟩).toArray] w fun e w' => e = .returned (.int .i64 4) ∧ Below w.heap.size w w' := by
  simp only [evCells]
  have c0 := (hb.cell 0).trans (rdCells_0 _ _ _)
  have c2 := (hb.cell (2 + k)).trans (rdCells_at _ _ _ k hk)
  have l0 := hb.lt
  have hk0 : (0 : Int) ≤ k := by omega
  have hk8 : (k : Int) < 8 := by omega
  have ht0 : (0 : Int) ≤ t := by omega
  have ht8 : (t : Int) < ts.length := by omega
  have d1 : decide ((k : Int) < 0) = false := by simp
  have d2 : decide ((8 : Int) ≤ k) = false := by simp; omega
  have d3 : decide ((t : Int) < 0) = false := by simp
  have d4 : decide ((ts.length : Int) ≤ t) = false := by simp; omega
  clear hb
  go_enter Try.func82, Try.ntmps82
  go_wp2_with (fail)
  go_quiet (fail)
  go_wp2_with (fail)
  go_quiet (fail)
  go_wp2_with (fail)
  go_ret
  exact ⟨rfl, by (repeat (first | assumption | exact Below.refl _ _ | refine bel_alloc ?_ _ | refine Below.drew ?_ | refine below_drewN' ?_ _ | (refine bel_set ?_ (by first | (simp; done) | (simp; omega)) _) | (refine bel_row ?_ (by first | (simp; done) | (simp; omega)) _)))⟩

set_option maxHeartbeats 2000000 in
theorem event_end_bad (r : Nat) (T : Option Addr) (c : Nat) (ts : List Int) (v : Value) (op : Nat → Int) (i : Int) (k t : Nat) (value : Int) (w : World) (hl : ts.length ≤ 9223372036854775807) (hk : k < 8) (ht : t < ts.length)
    (hb : Blk w r 178 (rdCells (.slice T ts.length c) v op)) (B : Nat) (cs : List Cl) (hcs : cs.length ≤ 1000) (ho : OwnCl w B v cs) (m : Nat) (hm : m < cs.length) (hop : op k = (m : Int) + 1)
    (hbad : cs[m].thing = t → resB cs[m].kind value = false) :
    Calls Try.prog 82 #[.pointer (some ⟨r, 0, none⟩), .int .i64 i, .agg (Ev.enc ⟨k, t, 0, value⟩).toArray] w fun e w' => e = .returned (.int .i64 3) ∧ Below w.heap.size w w' := by
  simp only [evCells]
  have c0 := (hb.cell 0).trans (rdCells_0 _ _ _)
  have c2 := (hb.cell (2 + k)).trans (rdCells_at _ _ _ k hk)
  have l0 := hb.lt
  have hk0 : (0 : Int) ≤ k := by omega
  have hk8 : (k : Int) < 8 := by omega
  have ht0 : (0 : Int) ≤ t := by omega
  have ht8 : (t : Int) < ts.length := by omega
  have d1 : decide ((k : Int) < 0) = false := by simp
  have d2 : decide ((8 : Int) ≤ k) = false := by simp; omega
  have d3 : decide ((t : Int) < 0) = false := by simp
  have d4 : decide ((ts.length : Int) ≤ t) = false := by simp; omega
  have c1 := (hb.cell 1).trans (rdCells_1 _ _ _)
  obtain ⟨g, cc, rfl, hgB, hg, hc, hfz⟩ := ho.at_ Cl.len m hm
  have e1 := hc 1 _ rfl
  have e2 := hc 2 _ rfl
  rw [hop] at c2
  have hm1 : (m : Int) < (cs.length : Int) := by omega
  have hm2 : (cs.length : Int) ≤ 1000 := by omega
  have hm3 : (m : Int) + 1 ≠ 0 := by omega
  have hm4 : ((m : Int) + 1 == 0) = false := by simpa using hm3
  generalize cs[m].thing = th at *
  generalize cs[m].kind = kd at *
  clear hb ho hc hfz hop
  by_cases he : th = t
  · subst he
    have hr := hbad rfl
    have d5 : (((t : Int) : Int) != t) = false := by simp
    clear hbad
    go_enter Try.func82, Try.ntmps82
    go_wp2_with (fail)
    go_quiet (fail)
    go_wp2_with (fail)
    go_quiet (fail)
    go_wp2_with (fail)
    go_quiet (first | (go_at_call 105; (first | exact Calls.quiet_of_same (result_is (by assumption) _) | exact Calls.quiet_same (result_is (by assumption) _))))
    go_wp2_with (fail)
    go_ret
    exact ⟨rfl, by (repeat (first | assumption | exact Below.refl _ _ | refine bel_alloc ?_ _ | refine Below.drew ?_ | refine below_drewN' ?_ _ | (refine bel_set ?_ (by first | (simp; done) | (simp; omega)) _) | (refine bel_row ?_ (by first | (simp; done) | (simp; omega)) _)))⟩
  · have d5 : (th != (t : Int)) = true := by simpa using he
    clear hbad
    go_enter Try.func82, Try.ntmps82
    go_wp2_with (fail)
    go_quiet (fail)
    go_wp2_with (fail)
    go_quiet (fail)
    go_wp2_with (fail)
    go_quiet (fail)
    go_wp2_with (fail)
    go_ret
    exact ⟨rfl, by (repeat (first | assumption | exact Below.refl _ _ | refine bel_alloc ?_ _ | refine Below.drew ?_ | refine below_drewN' ?_ _ | (refine bel_set ?_ (by first | (simp; done) | (simp; omega)) _) | (refine bel_row ?_ (by first | (simp; done) | (simp; omega)) _)))⟩
end Go.Proofs.Ytnflkmjfhbfekaa
