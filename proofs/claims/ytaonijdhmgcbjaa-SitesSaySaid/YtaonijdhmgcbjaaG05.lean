/- Lemmas for the walks (Hist2, Hist3, Ty, S, W, Kinds, Own2, Obj4, Obj6, Obj8, Law, R, LawR). No condition. -/
import Derived.Test.YtaonijdhmgcbjaaG01
import Derived.Deep.RegionHeld3
import Derived.Deep.AppendLies
import Derived.Deep.DrawnRows
import Derived.BigRegion
import Derived.Test.YtaonijdhmgcbjaaProg
import Derived.Test.YtaonijdhmgcbjaaG03
import Derived.Test.YtaonijdhmgcbjaaG04
import Derived.Shelf.Bits.Mul64
import Derived.Shelf.Spec.SlicesInsertGrow
import Derived.Test.YtaonijdhmgcbjaaRows
import Derived.ProofKit
import Derived.Deep.Slices
import Derived.Deep.Fields
import Derived.Lib.SmallJoins
import Derived.ChangeSlices
set_option linter.unusedSimpArgs false
set_option linter.unusedVariables false
set_option linter.unusedSectionVars false
set_option linter.unnecessarySimpa false
namespace Go.Proofs.Ytaonijdhmgcbjaa
open Go.RowKit

def idxI (l : List Int) (x : Int) : Int := if x ∈ l then (l.idxOf x : Int) else -1
theorem idxI_nn (l : List Int) (x : Int) : decide (0 ≤ idxI l x) = l.contains x := by
  rw [Bool.eq_iff_iff]
  unfold idxI
  by_cases h : x ∈ l <;> simp [h]

set_option maxHeartbeats 2000000 in
theorem index_any (A : Option Addr) (c : Nat) (l : List Int) (x : Int) (w : World) (hl : l.length ≤ 9223372036854775807) (hA : RdInt w A l) :
    Calls Try.prog 75 #[.slice A l.length c, .int .i64 x] w fun e w' => e = .returned (.int .i64 (idxI l x)) ∧ Below w.heap.size w w' := by
  go_enter Try.func75, Try.ntmps75
  go_wp2
  go_loopw [8] (fun i wr => ∃ k : Nat, k ≤ l.length ∧ i = .int .i64 k ∧ Hid (x ∉ l.take k) ∧ Below w.heap.size w wr) (fun i _ => l.length - (intOf i).toNat)
  case atStart => exact ⟨0, by omega, rfl, Lib.hid (by simp), Below.refl _ _⟩
  case round =>
    obtain ⟨k, hk, rfl, hno, hbel⟩ := hrel
    by_cases hlt : k < l.length
    · obtain ⟨b, o, rfl, hb0, hbs, c0⟩ := hA.at_ hbel k hlt
      have hk1 : (k : Int) < (l.length : Int) := by omega
      by_cases he : x = l[k]
      · have hb : (x == l[k]) = true := by simp [he]
        have He := Lib.hid he
        clear he
        go_wp2
        go_ret
        exact ⟨ret_int (by
          have hm : x ∈ l := by rw [He.out]; exact List.getElem_mem _
          unfold idxI
          rw [if_pos hm]
          have : l.idxOf x = k := findIdx_at hlt (by
            rw [List.any_eq_false]
            intro y hy e
            rw [beq_iff_eq] at e
            subst e
            exact hno.out hy) (by simp [He.out])
          rw [this]), by (repeat (first | assumption | exact Below.refl _ _ | refine bel_alloc ?_ _ | refine Below.drew ?_ | refine below_drewN' ?_ _ | (refine bel_set ?_ (by first | (simp; done) | (simp; omega)) _) | (refine bel_row ?_ (by first | (simp; done) | (simp; omega)) _)))⟩
      · have hb : (x == l[k]) = false := by simp [he]
        have He := Lib.hid he
        clear he
        go_wp2
        go_roundw
        case rel => exact ⟨k + 1, by omega, by go_num, Lib.hid (by
          rw [List.take_succ_eq_append_getElem hlt]
          simp only [List.mem_append, List.mem_singleton, not_or]
          exact ⟨hno.out, He.out⟩), by (repeat (first | assumption | exact Below.refl _ _ | refine bel_alloc ?_ _ | refine Below.drew ?_ | refine below_drewN' ?_ _ | (refine bel_set ?_ (by first | (simp; done) | (simp; omega)) _) | (refine bel_row ?_ (by first | (simp; done) | (simp; omega)) _)))⟩
        case measure => simp [intOf]; omega
    · obtain rfl : k = l.length := by omega
      go_wp2
      go_ret
      exact ⟨ret_int (by
        unfold idxI
        rw [if_neg]
        simpa using hno.out), hbel⟩

theorem contains_any (A : Option Addr) (c : Nat) (l : List Int) (x : Int) (w : World) (hl : l.length ≤ 9223372036854775807) (hA : RdInt w A l) :
    Calls Try.prog 46 #[.slice A l.length c, .int .i64 x] w fun e w' => e = .returned (.bool (l.contains x)) ∧ Below w.heap.size w w' := by
  go_enter Try.func46, Try.ntmps46
  go_wp2_with (go_at_call 75; refine (index_any _ _ _ _ _ hl hA).mono ?_; rintro e w' ⟨rfl, hb⟩)
  go_ret
  exact ⟨ret_bool (by rw [← idxI_nn]), by (repeat (first | assumption | exact Below.refl _ _ | refine bel_alloc ?_ _ | refine Below.drew ?_ | refine below_drewN' ?_ _ | (refine bel_set ?_ (by first | (simp; done) | (simp; omega)) _) | (refine bel_row ?_ (by first | (simp; done) | (simp; omega)) _)))⟩

theorem badType_any (t : Int) (w : World) : Calls Try.prog 85 #[.int .i64 t] w fun e w' => e = .returned (.bool (decide (t < 1 ∨ 5 < t))) ∧ w = w' := by
  by_cases h1 : t < 1
  · have hb : decide (t < 1) = true := by simpa using h1
    go_enter Try.func85, Try.ntmps85
    go_wp2
    go_ret
    simp [h1]
  · have hb : decide (t < 1) = false := by simpa using h1
    go_enter Try.func85, Try.ntmps85
    go_wp2
    go_ret
    simp [h1]

def badT (t : Int) : Bool := decide (t < 1 ∨ 5 < t)
set_option maxHeartbeats 2000000 in
theorem indexFunc_any (A : Option Addr) (c : Nat) (l : List Int) (w : World) (hl : l.length ≤ 9223372036854775807) (hA : RdInt w A l) :
    Calls Try.prog 104 #[.slice A l.length c, .func (.func 85) #[] #[]] w fun e w' => (∃ r : Int, e = .returned (.int .i64 r) ∧ decide (0 ≤ r) = l.any badT) ∧ Below w.heap.size w w' := by
  go_enter Try.func104, Try.ntmps104
  go_wp2
  go_loopw [8] (fun i wr => ∃ k : Nat, k ≤ l.length ∧ i = .int .i64 k ∧ Hid ((l.take k).any badT = false) ∧ Below w.heap.size w wr) (fun i _ => l.length - (intOf i).toNat)
  case atStart => exact ⟨0, by omega, rfl, Lib.hid (by simp), Below.refl _ _⟩
  case round =>
    obtain ⟨k, hk, rfl, hno, hbel⟩ := hrel
    by_cases hlt : k < l.length
    · obtain ⟨b, o, rfl, hb0, hbs, c0⟩ := hA.at_ hbel k hlt
      have hk1 : (k : Int) < (l.length : Int) := by omega
      by_cases he : badT l[k] = true
      · have hb : decide (l[k] < 1 ∨ 5 < l[k]) = true := he
        have He := Lib.hid he
        clear he
        go_wp2_with (go_at_call 85; refine (badType_any _ _).mono ?_; rintro e w' ⟨rfl, rfl⟩)
        go_ret
        exact ⟨⟨_, rfl, by
          have : l.any badT = true := List.any_eq_true.2 ⟨l[k], List.getElem_mem _, He.out⟩
          rw [this]; simp⟩, by (repeat (first | assumption | exact Below.refl _ _ | refine bel_alloc ?_ _ | refine Below.drew ?_ | refine below_drewN' ?_ _ | (refine bel_set ?_ (by first | (simp; done) | (simp; omega)) _) | (refine bel_row ?_ (by first | (simp; done) | (simp; omega)) _)))⟩
      · have he' : badT l[k] = false := by simpa using he
        have hb : decide (l[k] < 1 ∨ 5 < l[k]) = false := he'
        have He := Lib.hid he'
        clear he he'
        go_wp2_with (go_at_call 85; refine (badType_any _ _).mono ?_; rintro e w' ⟨rfl, rfl⟩)
        go_roundw
        case rel => exact ⟨k + 1, by omega, by go_num, Lib.hid (any_take_succ' hlt hno.out He.out), by (repeat (first | assumption | exact Below.refl _ _ | refine bel_alloc ?_ _ | refine Below.drew ?_ | refine below_drewN' ?_ _ | (refine bel_set ?_ (by first | (simp; done) | (simp; omega)) _) | (refine bel_row ?_ (by first | (simp; done) | (simp; omega)) _)))⟩
        case measure => simp [intOf]; omega
    · obtain rfl : k = l.length := by omega
      go_wp2
      go_ret
      exact ⟨⟨_, rfl, by have := hno.out; rw [List.take_length] at this; rw [this]; simp⟩, hbel⟩
theorem containsFunc_any (A : Option Addr) (c : Nat) (l : List Int) (w : World) (hl : l.length ≤ 9223372036854775807) (hA : RdInt w A l) :
    Calls Try.prog 86 #[.slice A l.length c, .func (.func 85) #[] #[]] w fun e w' => e = .returned (.bool (l.any badT)) ∧ Below w.heap.size w w' := by
  go_enter Try.func86, Try.ntmps86
  go_wp2_with (go_at_call 104; refine (indexFunc_any _ _ _ _ hl hA).mono ?_; rintro e w' ⟨⟨r, rfl, hr⟩, hb⟩)
  go_ret
  exact ⟨rfl, by assumption⟩

def typesOk (l : List Int) : Bool := decide (1 ≤ l.length ∧ l.length ≤ 4) && !l.any badT
def typesE (l : List Int) : Int := if typesOk l then 0 else 1
set_option maxHeartbeats 2000000 in
theorem types_any (A : Option Addr) (c : Nat) (l : List Int) (w : World) (hl : l.length ≤ 9223372036854775807) (hA : RdInt w A l) :
    Calls Try.prog 67 #[.slice A l.length c] w fun e w' => e = .returned (.int .i64 (typesE l)) ∧ Below w.heap.size w w' := by
  by_cases h1 : l.length < 1
  · have hb : decide ((l.length : Int) < 1) = true := by simp; omega
    have hk : typesOk l = false := by simp [typesOk]; omega
    go_enter Try.func67, Try.ntmps67
    go_wp2
    go_ret
    exact ⟨ret_int (by simp [typesE, hk]), by (repeat (first | assumption | exact Below.refl _ _ | refine bel_alloc ?_ _ | refine Below.drew ?_ | refine below_drewN' ?_ _ | (refine bel_set ?_ (by first | (simp; done) | (simp; omega)) _) | (refine bel_row ?_ (by first | (simp; done) | (simp; omega)) _)))⟩
  · by_cases h2 : 4 < l.length
    · have hb : decide ((l.length : Int) < 1) = false := by simp; omega
      have hb2 : decide (4 < (l.length : Int)) = true := by simp; omega
      have hk : typesOk l = false := by simp [typesOk]; omega
      go_enter Try.func67, Try.ntmps67
      go_wp2
      go_ret
      exact ⟨ret_int (by simp [typesE, hk]), by (repeat (first | assumption | exact Below.refl _ _ | refine bel_alloc ?_ _ | refine Below.drew ?_ | refine below_drewN' ?_ _ | (refine bel_set ?_ (by first | (simp; done) | (simp; omega)) _) | (refine bel_row ?_ (by first | (simp; done) | (simp; omega)) _)))⟩
    · have hb : decide ((l.length : Int) < 1) = false := by simp; omega
      have hb2 : decide (4 < (l.length : Int)) = false := by simp; omega
      have hk : typesOk l = !l.any badT := by simp [typesOk]; omega
      have Hk := Lib.hid hk
      clear hk
      go_enter Try.func67, Try.ntmps67
      go_wp2_with (go_at_call 86; refine (containsFunc_any _ _ _ _ hl hA).mono ?_; rintro e w' ⟨rfl, hb⟩)
      all_goals
        go_ret
        exact ⟨ret_int (by rw [typesE, Hk.out]; simp [*]), by assumption⟩

theorem asks_eq (k n : Int) : argB k n = if [2, 4, 6, 10].contains k then decide (n = 0) else decide (1 ≤ n ∧ n ≤ 1000) := by
  unfold argB
  by_cases h : k = 2 ∨ k = 4 ∨ k = 6 ∨ k = 10
  · rw [if_pos h, if_pos (by simpa using h)]
  · rw [if_neg h, if_neg (by simpa using h)]
theorem asks_any (k n : Int) (w : World) :
    Calls Try.prog 48 #[.int .i64 k, .int .i64 n] w fun e w' => e = .returned (.bool (argB k n)) ∧ Below w.heap.size w w' := by
  have R := RdInt.of_list (l := [2, 4, 6, 10]) (Blk.new w 3 _)
  rw [asks_eq]
  by_cases hc : [2, 4, 6, 10].contains k = true
  · rw [if_pos hc]
    go_enter Try.func48, Try.ntmps48
    go_wp2_with (go_at_call 46; refine (contains_any _ _ [2, 4, 6, 10] _ _ (by decide) R).mono ?_; rintro e w' ⟨rfl, hb⟩; rw [hc])
    go_ret
    exact ⟨rfl, bel_trans (bel_alloc (Below.refl _ _) _) hb⟩
  · rw [if_neg hc]
    have hc' : [2, 4, 6, 10].contains k = false := by simpa using hc
    clear hc
    go_enter Try.func48, Try.ntmps48
    go_wp2_with (first | (go_at_call 46; refine (contains_any _ _ [2, 4, 6, 10] _ _ (by decide) R).mono ?_; rintro e w' ⟨rfl, hb⟩; rw [hc']) | (go_at_call 20; refine (between_any _ _ _ _).mono ?_; rintro e w' ⟨rfl, rfl⟩))
    go_ret
    exact ⟨ret_bool (by rw [Bool.eq_iff_iff]; simp), bel_trans (bel_alloc (Below.refl _ _) _) hb⟩
end Go.Proofs.Ytaonijdhmgcbjaa

namespace Go.Proofs.Ytaonijdhmgcbjaa
open Go.RowKit

structure Ev where
  who : Int
  thing : Int
  kind : Int
  value : Int
deriving DecidableEq
structure Cl where
  who : Int
  thing : Int
  kind : Int
  arg : Int
  res : Int
  from_ : Int
  to : Int
deriving DecidableEq
instance : Inhabited Cl := ⟨⟨0, 0, 0, 0, 0, 0, 0⟩⟩
def Ev.enc (v : Ev) : List Value := [.int .i64 v.who, .int .i64 v.thing, .int .i64 v.kind, .int .i64 v.value]
def Cl.enc (v : Cl) : List Value := [.int .i64 v.who, .int .i64 v.thing, .int .i64 v.kind, .int .i64 v.arg, .int .i64 v.res, .int .i64 v.from_, .int .i64 v.to]
def RdEv (w : World) (A : Option Addr) (l : List Ev) : Prop := RdE Ev.enc 4 w A l
def formBad (ts : List Int) (v : Ev) : Bool := decide (v.who < 0) || decide (8 ≤ v.who) || decide (v.thing < 0) || decide ((ts.length : Int) ≤ v.thing)
theorem evCells (v : Ev) : Ev.enc v = [.int .i64 v.who, .int .i64 v.thing, .int .i64 v.kind, .int .i64 v.value] := rfl

theorem Cl.len (x : Cl) : (Cl.enc x).length = 7 := rfl
end Go.Proofs.Ytaonijdhmgcbjaa

namespace Go.Proofs.Ytaonijdhmgcbjaa
open Go.RowKit

instance : OneCell Try.prog 3 := ⟨Try.isAgg3, Try.sizeOf3⟩
instance : IntOf Try.prog 3 .i64 := ⟨Try.underlying3⟩
instance : ZeroOf Try.prog 3 (Value.int IntKind.i64 0) := ⟨Try.zeroValue3⟩
instance : InfoOf Try.prog 3 (Value.int IntKind.i64 0) 1 8 := ⟨by kernel_rfl, by rfl, by decide⟩
instance : OneCell Try.prog 4 := ⟨Try.isAgg4, Try.sizeOf4⟩
instance : ZeroOf Try.prog 4 (Value.bool Bool.false) := ⟨Try.zeroValue4⟩
instance : InfoOf Try.prog 4 (Value.bool Bool.false) 1 1 := ⟨by kernel_rfl, by rfl, by decide⟩
instance : SliceOf Try.prog 22 80 1 := ⟨Try.underlying22, Try.sizeOf80⟩
instance : SliceOf Try.prog 23 86 2 := ⟨Try.underlying23, Try.sizeOf86⟩
instance : OneCell Try.prog 24 := ⟨Try.isAgg24, Try.sizeOf24⟩
instance : SliceOf Try.prog 24 34 4 := ⟨Try.underlying24, Try.sizeOf34⟩
instance : OneCell Try.prog 25 := ⟨Try.isAgg25, Try.sizeOf25⟩
instance : SliceOf Try.prog 25 37 4 := ⟨Try.underlying25, Try.sizeOf37⟩
instance : AggOf Try.prog 34 4 := ⟨Try.isAgg34, Try.sizeOf34⟩
instance : FieldAt Try.prog 34 0 0 := fieldAt_of 0 3 Try.underlying34 rfl Try.sizeOf3 (by decide)
instance : FieldAt Try.prog 34 1 1 := fieldAt_of 1 3 Try.underlying34 rfl Try.sizeOf3 (by decide)
instance : FieldAt Try.prog 34 2 2 := fieldAt_of 2 3 Try.underlying34 rfl Try.sizeOf3 (by decide)
instance : FieldAt Try.prog 34 3 3 := fieldAt_of 3 3 Try.underlying34 rfl Try.sizeOf3 (by decide)
instance : ZeroOf Try.prog 34 (Value.agg #[Value.int IntKind.i64 0, Value.int IntKind.i64 0, Value.int IntKind.i64 0, Value.int IntKind.i64 0]) := ⟨Try.zeroValue34⟩
instance : InfoOf Try.prog 34 (Value.agg #[Value.int IntKind.i64 0, Value.int IntKind.i64 0, Value.int IntKind.i64 0, Value.int IntKind.i64 0]) 4 32 := ⟨by kernel_rfl, by rfl, by decide⟩
instance : AggOf Try.prog 37 4 := ⟨Try.isAgg37, Try.sizeOf37⟩
instance : FieldAt Try.prog 37 0 0 := fieldAt_of 0 3 Try.underlying37 rfl Try.sizeOf3 (by decide)
instance : FieldAt Try.prog 37 1 1 := fieldAt_of 1 3 Try.underlying37 rfl Try.sizeOf3 (by decide)
instance : FieldAt Try.prog 37 2 2 := fieldAt_of 2 3 Try.underlying37 rfl Try.sizeOf3 (by decide)
instance : FieldAt Try.prog 37 3 3 := fieldAt_of 3 4 Try.underlying37 rfl Try.sizeOf4 (by decide)
instance : InfoOf Try.prog 37 (Value.agg #[Value.int IntKind.i64 0, Value.int IntKind.i64 0, Value.int IntKind.i64 0, Value.bool Bool.false]) 4 32 := ⟨by kernel_rfl, by rfl, by decide⟩
instance : OneCell Try.prog 46 := ⟨Try.isAgg46, Try.sizeOf46⟩
instance : SliceOf Try.prog 46 107 7 := ⟨Try.underlying46, Try.sizeOf107⟩
instance : OneCell Try.prog 58 := ⟨Try.isAgg58, Try.sizeOf58⟩
instance : SliceOf Try.prog 58 3 1 := ⟨Try.underlying58, Try.sizeOf3⟩
instance : ZeroOf Try.prog 58 (Value.slice Option.none 0 0) := ⟨Try.zeroValue58⟩
instance : OneCell Try.prog 76 := ⟨Try.isAgg76, Try.sizeOf76⟩
instance : SliceOf Try.prog 76 84 8 := ⟨Try.underlying76, Try.sizeOf84⟩
instance : OneCell Try.prog 77 := ⟨Try.isAgg77, Try.sizeOf77⟩
instance : SliceOf Try.prog 77 134 9 := ⟨Try.underlying77, Try.sizeOf134⟩
instance : FieldAt Try.prog 79 0 0 := fieldAt_of 0 4 Try.underlying79 rfl Try.sizeOf4 (by decide)
instance : FieldAt Try.prog 79 1 1 := fieldAt_of 1 25 Try.underlying79 rfl Try.sizeOf25 (by decide)
instance : FieldAt Try.prog 79 2 2 := fieldAt_of 2 76 Try.underlying79 rfl Try.sizeOf76 (by decide)
instance : FieldAt Try.prog 79 3 3 := fieldAt_of 3 77 Try.underlying79 rfl Try.sizeOf77 (by decide)
instance : FieldAt Try.prog 79 4 4 := fieldAt_of 4 24 Try.underlying79 rfl Try.sizeOf24 (by decide)
instance : OneCell Try.prog 80 := ⟨Try.isAgg80, Try.sizeOf80⟩
instance : SliceOf Try.prog 80 98 3 := ⟨Try.underlying80, Try.sizeOf98⟩
instance : AggOf Try.prog 82 2 := ⟨Try.isAgg82, Try.sizeOf82⟩
instance : FieldAt Try.prog 82 0 0 := fieldAt_of 0 3 Try.underlying82 rfl Try.sizeOf3 (by decide)
instance : FieldAt Try.prog 82 1 1 := fieldAt_of 1 3 Try.underlying82 rfl Try.sizeOf3 (by decide)
instance : ZeroOf Try.prog 82 (Value.agg #[Value.int IntKind.i64 0, Value.int IntKind.i64 0]) := ⟨Try.zeroValue82⟩
instance : FieldAt Try.prog 84 0 0 := fieldAt_of 0 80 Try.underlying84 rfl Try.sizeOf80 (by decide)
instance : FieldAt Try.prog 84 1 1 := fieldAt_of 1 4 Try.underlying84 rfl Try.sizeOf4 (by decide)
instance : FieldAt Try.prog 84 2 2 := fieldAt_of 2 3 Try.underlying84 rfl Try.sizeOf3 (by decide)
instance : FieldAt Try.prog 84 3 3 := fieldAt_of 3 4 Try.underlying84 rfl Try.sizeOf4 (by decide)
instance : FieldAt Try.prog 84 4 4 := fieldAt_of 4 3 Try.underlying84 rfl Try.sizeOf3 (by decide)
instance : FieldAt Try.prog 84 5 5 := fieldAt_of 5 82 Try.underlying84 rfl Try.sizeOf82 (by decide)
instance : FieldAt Try.prog 84 6 7 := fieldAt_of 7 3 Try.underlying84 rfl Try.sizeOf3 (by decide)
instance : ZeroOf Try.prog 84 (Value.agg #[Value.slice Option.none 0 0, Value.bool Bool.false, Value.int IntKind.i64 0, Value.bool Bool.false, Value.int IntKind.i64 0, Value.int IntKind.i64 0, Value.int IntKind.i64 0, Value.int IntKind.i64 0]) := ⟨Try.zeroValue84⟩
instance : InfoOf Try.prog 84 (Value.agg #[Value.slice Option.none 0 0, Value.bool Bool.false, Value.int IntKind.i64 0, Value.bool Bool.false, Value.int IntKind.i64 0, Value.int IntKind.i64 0, Value.int IntKind.i64 0, Value.int IntKind.i64 0]) 8 80 := ⟨by kernel_rfl, by rfl, by decide⟩
instance : AggOf Try.prog 86 2 := ⟨Try.isAgg86, Try.sizeOf86⟩
instance : FieldAt Try.prog 86 0 0 := fieldAt_of 0 3 Try.underlying86 rfl Try.sizeOf3 (by decide)
instance : FieldAt Try.prog 86 1 1 := fieldAt_of 1 3 Try.underlying86 rfl Try.sizeOf3 (by decide)
instance : ZeroOf Try.prog 86 (Value.agg #[Value.int IntKind.i64 0, Value.int IntKind.i64 0]) := ⟨Try.zeroValue86⟩
instance : OneCell Try.prog 89 := ⟨Try.isAgg89, Try.sizeOf89⟩
instance : SliceOf Try.prog 89 95 6 := ⟨Try.underlying89, Try.sizeOf95⟩
instance : ZeroOf Try.prog 89 (Value.slice Option.none 0 0) := ⟨Try.zeroValue89⟩
instance : OneCell Try.prog 90 := ⟨Try.isAgg90, Try.sizeOf90⟩
instance : SliceOf Try.prog 90 4 1 := ⟨Try.underlying90, Try.sizeOf4⟩
instance : ZeroOf Try.prog 90 (Value.slice Option.none 0 0) := ⟨Try.zeroValue90⟩
instance : OneCell Try.prog 91 := ⟨Try.isAgg91, Try.sizeOf91⟩
instance : SliceOf Try.prog 91 92 3 := ⟨Try.underlying91, Try.sizeOf92⟩
instance : ZeroOf Try.prog 91 (Value.slice Option.none 0 0) := ⟨Try.zeroValue91⟩
instance : AggOf Try.prog 92 3 := ⟨Try.isAgg92, Try.sizeOf92⟩
instance : ArrayOf Try.prog 92 3 3 1 := ⟨Try.underlying92, Try.sizeOf3⟩
instance : ZeroOf Try.prog 92 (Value.agg #[Value.int IntKind.i64 0, Value.int IntKind.i64 0, Value.int IntKind.i64 0]) := ⟨Try.zeroValue92⟩
instance : InfoOf Try.prog 92 (Value.agg #[Value.int IntKind.i64 0, Value.int IntKind.i64 0, Value.int IntKind.i64 0]) 3 24 := ⟨by kernel_rfl, by rfl, by decide⟩
instance : AggOf Try.prog 95 6 := ⟨Try.isAgg95, Try.sizeOf95⟩
instance : FieldAt Try.prog 95 0 0 := fieldAt_of 0 3 Try.underlying95 rfl Try.sizeOf3 (by decide)
instance : FieldAt Try.prog 95 1 1 := fieldAt_of 1 3 Try.underlying95 rfl Try.sizeOf3 (by decide)
instance : FieldAt Try.prog 95 2 2 := fieldAt_of 2 3 Try.underlying95 rfl Try.sizeOf3 (by decide)
instance : FieldAt Try.prog 95 3 3 := fieldAt_of 3 92 Try.underlying95 rfl Try.sizeOf92 (by decide)
instance : ZeroOf Try.prog 95 (Value.agg #[Value.int IntKind.i64 0, Value.int IntKind.i64 0, Value.int IntKind.i64 0, Value.int IntKind.i64 0, Value.int IntKind.i64 0, Value.int IntKind.i64 0]) := ⟨Try.zeroValue95⟩
instance : InfoOf Try.prog 95 (Value.agg #[Value.int IntKind.i64 0, Value.int IntKind.i64 0, Value.int IntKind.i64 0, Value.int IntKind.i64 0, Value.int IntKind.i64 0, Value.int IntKind.i64 0]) 6 48 := ⟨by kernel_rfl, by rfl, by decide⟩
instance : AggOf Try.prog 98 3 := ⟨Try.isAgg98, Try.sizeOf98⟩
instance : FieldAt Try.prog 98 0 0 := fieldAt_of 0 3 Try.underlying98 rfl Try.sizeOf3 (by decide)
instance : FieldAt Try.prog 98 1 1 := fieldAt_of 1 3 Try.underlying98 rfl Try.sizeOf3 (by decide)
instance : FieldAt Try.prog 98 2 2 := fieldAt_of 2 3 Try.underlying98 rfl Try.sizeOf3 (by decide)
instance : ZeroOf Try.prog 98 (Value.agg #[Value.int IntKind.i64 0, Value.int IntKind.i64 0, Value.int IntKind.i64 0]) := ⟨Try.zeroValue98⟩
instance : AggOf Try.prog 107 7 := ⟨Try.isAgg107, Try.sizeOf107⟩
instance : FieldAt Try.prog 107 0 0 := fieldAt_of 0 3 Try.underlying107 rfl Try.sizeOf3 (by decide)
instance : FieldAt Try.prog 107 1 1 := fieldAt_of 1 3 Try.underlying107 rfl Try.sizeOf3 (by decide)
instance : FieldAt Try.prog 107 2 2 := fieldAt_of 2 3 Try.underlying107 rfl Try.sizeOf3 (by decide)
instance : FieldAt Try.prog 107 4 4 := fieldAt_of 4 3 Try.underlying107 rfl Try.sizeOf3 (by decide)
instance : FieldAt Try.prog 107 6 6 := fieldAt_of 6 3 Try.underlying107 rfl Try.sizeOf3 (by decide)
instance : ZeroOf Try.prog 107 (Value.agg #[Value.int IntKind.i64 0, Value.int IntKind.i64 0, Value.int IntKind.i64 0, Value.int IntKind.i64 0, Value.int IntKind.i64 0, Value.int IntKind.i64 0, Value.int IntKind.i64 0]) := ⟨Try.zeroValue107⟩
instance : InfoOf Try.prog 107 (Value.agg #[Value.int IntKind.i64 0, Value.int IntKind.i64 0, Value.int IntKind.i64 0, Value.int IntKind.i64 0, Value.int IntKind.i64 0, Value.int IntKind.i64 0, Value.int IntKind.i64 0]) 7 56 := ⟨by kernel_rfl, by rfl, by decide⟩
instance : FieldAt Try.prog 134 0 0 := fieldAt_of 0 3 Try.underlying134 rfl Try.sizeOf3 (by decide)
instance : FieldAt Try.prog 134 1 1 := fieldAt_of 1 3 Try.underlying134 rfl Try.sizeOf3 (by decide)
instance : FieldAt Try.prog 134 2 2 := fieldAt_of 2 3 Try.underlying134 rfl Try.sizeOf3 (by decide)
instance : FieldAt Try.prog 134 3 3 := fieldAt_of 3 4 Try.underlying134 rfl Try.sizeOf4 (by decide)
instance : FieldAt Try.prog 134 4 4 := fieldAt_of 4 82 Try.underlying134 rfl Try.sizeOf82 (by decide)
instance : FieldAt Try.prog 134 5 6 := fieldAt_of 6 3 Try.underlying134 rfl Try.sizeOf3 (by decide)
instance : FieldAt Try.prog 134 6 7 := fieldAt_of 7 4 Try.underlying134 rfl Try.sizeOf4 (by decide)
instance : FieldAt Try.prog 134 7 8 := fieldAt_of 8 4 Try.underlying134 rfl Try.sizeOf4 (by decide)
instance : ZeroOf Try.prog 134 (Value.agg #[Value.int IntKind.i64 0, Value.int IntKind.i64 0, Value.int IntKind.i64 0, Value.bool Bool.false, Value.int IntKind.i64 0, Value.int IntKind.i64 0, Value.int IntKind.i64 0, Value.bool Bool.false, Value.bool Bool.false]) := ⟨Try.zeroValue134⟩
instance : InfoOf Try.prog 134 (Value.agg #[Value.int IntKind.i64 0, Value.int IntKind.i64 0, Value.int IntKind.i64 0, Value.bool Bool.false, Value.int IntKind.i64 0, Value.int IntKind.i64 0, Value.int IntKind.i64 0, Value.bool Bool.false, Value.bool Bool.false]) 9 64 := ⟨by kernel_rfl, by rfl, by decide⟩
instance : ArrayOf Try.prog 148 8 3 1 := ⟨Try.underlying148, Try.sizeOf3⟩
instance : FieldAt Try.prog 150 0 0 := fieldAt_of 0 58 Try.underlying150 rfl Try.sizeOf58 (by decide)
instance : FieldAt Try.prog 150 1 1 := fieldAt_of 1 46 Try.underlying150 rfl Try.sizeOf46 (by decide)
instance : FieldAt Try.prog 150 2 2 := fieldAt_of 2 148 Try.underlying150 rfl Try.sizeOf148 (by decide)
instance : IntOf Try.prog 170 .u64 := ⟨Try.underlying170⟩
instance : AggOf Try.prog 217 0 := ⟨Try.isAgg217, Try.sizeOf217⟩
instance : BuiltOf Try.prog 34 [(0, 1), (1, 1), (2, 1), (3, 1)] [Value.int IntKind.i64 0, Value.int IntKind.i64 0, Value.int IntKind.i64 0, Value.int IntKind.i64 0] := ⟨by kernel_rfl⟩
instance : BuiltOf Try.prog 79 [(0, 1), (1, 1), (2, 1), (3, 1), (4, 1)] [Value.bool Bool.false, Value.slice Option.none 0 0, Value.slice Option.none 0 0, Value.slice Option.none 0 0, Value.slice Option.none 0 0] := ⟨by kernel_rfl⟩
instance : BuiltOf Try.prog 82 [(0, 1), (1, 1)] [Value.int IntKind.i64 0, Value.int IntKind.i64 0] := ⟨by kernel_rfl⟩
instance : BuiltOf Try.prog 84 [(0, 1), (1, 1), (2, 1), (3, 1), (4, 1), (5, 2), (7, 1)] [Value.slice Option.none 0 0, Value.bool Bool.false, Value.int IntKind.i64 0, Value.bool Bool.false, Value.int IntKind.i64 0, Value.int IntKind.i64 0, Value.int IntKind.i64 0, Value.int IntKind.i64 0] := ⟨by kernel_rfl⟩
instance : BuiltOf Try.prog 92 [(0, 1), (1, 1), (2, 1)] [Value.int IntKind.i64 0, Value.int IntKind.i64 0, Value.int IntKind.i64 0] := ⟨by kernel_rfl⟩
instance : BuiltOf Try.prog 95 [(0, 1), (1, 1), (2, 1), (3, 3)] [Value.int IntKind.i64 0, Value.int IntKind.i64 0, Value.int IntKind.i64 0, Value.int IntKind.i64 0, Value.int IntKind.i64 0, Value.int IntKind.i64 0] := ⟨by kernel_rfl⟩
instance : BuiltOf Try.prog 107 [(0, 1), (1, 1), (2, 1), (3, 1), (4, 1), (5, 1), (6, 1)] [Value.int IntKind.i64 0, Value.int IntKind.i64 0, Value.int IntKind.i64 0, Value.int IntKind.i64 0, Value.int IntKind.i64 0, Value.int IntKind.i64 0, Value.int IntKind.i64 0] := ⟨by kernel_rfl⟩
instance : BuiltOf Try.prog 134 [(0, 1), (1, 1), (2, 1), (3, 1), (4, 2), (6, 1), (7, 1), (8, 1)] [Value.int IntKind.i64 0, Value.int IntKind.i64 0, Value.int IntKind.i64 0, Value.bool Bool.false, Value.int IntKind.i64 0, Value.int IntKind.i64 0, Value.int IntKind.i64 0, Value.bool Bool.false, Value.bool Bool.false] := ⟨by kernel_rfl⟩
instance : BuiltOf Try.prog 216 [(0, 0)] [] := ⟨by kernel_rfl⟩
instance : BuiltOf Try.prog 219 [(0, 0)] [] := ⟨by kernel_rfl⟩
instance : BuiltOf Try.prog 220 [(0, 0)] [] := ⟨by kernel_rfl⟩
instance : BuiltOf Try.prog 221 [(0, 0)] [] := ⟨by kernel_rfl⟩
instance : BuiltOf Try.prog 222 [(0, 0)] [] := ⟨by kernel_rfl⟩
instance : IsFn Try.prog 6 := ⟨Try.call6⟩
instance : IsFn Try.prog 7 := ⟨Try.call7⟩
instance : IsFn Try.prog 8 := ⟨Try.call8⟩
instance : IsFn Try.prog 9 := ⟨Try.call9⟩
instance : IsFn Try.prog 10 := ⟨Try.call10⟩
instance : IsFn Try.prog 19 := ⟨Try.call19⟩
instance : IsFn Try.prog 20 := ⟨Try.call20⟩
instance : IsFn Try.prog 26 := ⟨Try.call26⟩
instance : IsFn Try.prog 27 := ⟨Try.call27⟩
instance : IsFn Try.prog 28 := ⟨Try.call28⟩
instance : IsFn Try.prog 29 := ⟨Try.call29⟩
instance : IsFn Try.prog 30 := ⟨Try.call30⟩
instance : IsFn Try.prog 31 := ⟨Try.call31⟩
instance : IsFn Try.prog 32 := ⟨Try.call32⟩
instance : IsFn Try.prog 45 := ⟨Try.call45⟩
instance : IsFn Try.prog 46 := ⟨Try.call46⟩
instance : IsFn Try.prog 47 := ⟨Try.call47⟩
instance : IsFn Try.prog 48 := ⟨Try.call48⟩
instance : IsFn Try.prog 56 := ⟨Try.call56⟩
instance : IsFn Try.prog 57 := ⟨Try.call57⟩
instance : IsFn Try.prog 58 := ⟨Try.call58⟩
instance : IsFn Try.prog 59 := ⟨Try.call59⟩
instance : IsFn Try.prog 60 := ⟨Try.call60⟩
instance : IsFn Try.prog 63 := ⟨Try.call63⟩
instance : IsFn Try.prog 67 := ⟨Try.call67⟩
instance : IsFn Try.prog 78 := ⟨Try.call78⟩
instance : IsFn Try.prog 79 := ⟨Try.call79⟩
instance : IsFn Try.prog 80 := ⟨Try.call80⟩
instance : IsFn Try.prog 81 := ⟨Try.call81⟩
instance : IsFn Try.prog 84 := ⟨Try.call84⟩
instance : IsFn Try.prog 86 := ⟨Try.call86⟩
instance : IsFn Try.prog 104 := ⟨Try.call104⟩
instance : IsFn Try.prog 111 := ⟨Try.call111⟩
instance : IsFn Try.prog 114 := ⟨Try.call114⟩
instance : IsFn Try.prog 129 := ⟨Try.call129⟩
instance : IsFn Try.prog 130 := ⟨Try.call130⟩
instance : IsFn Try.prog 146 := ⟨Try.call146⟩
instance : IsFn Try.prog 147 := ⟨Try.call147⟩
instance : IsFn Try.prog 148 := ⟨Try.call148⟩
instance : IsFn Try.prog 149 := ⟨Try.call149⟩
instance : IsFn Try.prog 150 := ⟨Try.call150⟩
instance : IsFn Try.prog 151 := ⟨Try.call151⟩
instance : IsFn Try.prog 152 := ⟨Try.call152⟩
instance : IsFn Try.prog 153 := ⟨Try.call153⟩
instance : IsFn Try.prog 154 := ⟨Try.call154⟩
instance : IsFn Try.prog 155 := ⟨Try.call155⟩
instance : IsFn Try.prog 156 := ⟨Try.call156⟩
instance : IsFn Try.prog 157 := ⟨Try.call157⟩
instance : IsFn Try.prog 158 := ⟨Try.call158⟩
instance : IsFn Try.prog 159 := ⟨Try.call159⟩
instance : IsFn Try.prog 160 := ⟨Try.call160⟩
instance : IsFn Try.prog 165 := ⟨Try.call165⟩
end Go.Proofs.Ytaonijdhmgcbjaa

namespace Go.Proofs.Ytaonijdhmgcbjaa
open Go.RowKit
section
variable {P : Program} {C : Ctx} {E : Slots} {S : List Ent} {t e m g p n c ty : Nat} {x y : Operand} {v : Value}
theorem QS_sliceHigh [hs : SliceOf P t e m] {k : IntKind} {j : Nat} (hx : evo E x = some (.slice (some ⟨g, p, none⟩) n c)) (hy : evo E y = some (.int k (j : Nat))) (hj : j ≤ c) :
    QS P C E S (.slice t x none (some y) none) ty (.slice (some ⟨g, p, none⟩) j c) :=
  QS.of (fun a w ha _ => by
    have he : P.elem t = e := by simp [Program.elem, hs.und]
    have hu : P.underlying t = some (.slice (P.elem t)) := by rw [he]; exact hs.und
    have hr := run_slice_h (P := P) (w := w) t (some ⟨g, p, none⟩) n c hu k (j : Int) (by omega) (by omega)
    rw [he, hs.size w] at hr
    simp only [Result.andThen_ok, Int.toNat_natCast] at hr
    have hv : sliced (some ⟨g, p, none⟩) 0 j c m = .slice (some ⟨g, p, none⟩) j c := by
      unfold sliced
      split <;> simp [add_mk]
    rw [hv] at hr
    simp [execOp, ha.evo hx, ha.evo hy, run_sliceAt_slice (P := P) (w := w) t _ _ _ _ hu, hr])
end
end Go.Proofs.Ytaonijdhmgcbjaa

namespace Go.Proofs.Ytaonijdhmgcbjaa
open Go.RowKit
theorem flat_setW {α : Type} {enc : α → List Value} {M : Nat} (hM : ∀ x, (enc x).length = M) (xx : α) : ∀ (ls : List α) (j : Nat), j < ls.length →
    (ls.set j xx).flatMap enc = (ls.flatMap enc).take (j * M) ++ enc xx ++ (ls.flatMap enc).drop (j * M + M)
  | [], _, h => by simp at h
  | x :: ls, 0, _ => by
    simp only [List.set_cons_zero, List.flatMap_cons, Nat.zero_mul, List.take_zero, List.nil_append, Nat.zero_add]
    rw [List.drop_append, List.drop_eq_nil_of_le (by rw [hM]; exact Nat.le_refl _), hM, Nat.sub_self]
    simp
  | x :: ls, j + 1, h => by
    have ih := flat_setW hM xx ls j (by simpa using h)
    have e : (j + 1) * M = M + j * M := by rw [Nat.succ_mul]; omega
    simp only [List.set_cons_succ, List.flatMap_cons, ih, e]
    have t1 : List.take (M + j * M) (enc x ++ ls.flatMap enc) = enc x ++ (ls.flatMap enc).take (j * M) := by
      rw [List.take_append, List.take_of_length_le (l := enc x) (by rw [hM]; omega), hM, show M + j * M - M = j * M by omega]
    have t2 : List.drop (M + j * M + M) (enc x ++ ls.flatMap enc) = (ls.flatMap enc).drop (j * M + M) := by
      rw [List.drop_append, List.drop_of_length_le (l := enc x) (by rw [hM]; omega), hM, show M + j * M + M - M = j * M + M by omega, List.nil_append]
    rw [t1, t2]
    simp
section
variable {P : Program} {C : Ctx} {E : Slots} {S S' : List Ent} {ty s g c M e j : Nat} {ps : String} {af : Array Edge} {g0 : Option (Nat × Bool)} {x y : Operand} {α : Type} {enc : α → List Value} {ls : List α}
end
end Go.Proofs.Ytaonijdhmgcbjaa

namespace Go.Proofs.Ytaonijdhmgcbjaa
open Go.RowKit
theorem between_C (a b c : Int) (w : World) : Calls Try.prog 20 #[.int .i64 a, .int .i64 b, .int .i64 c] w fun e w' => e = .returned (.bool (decide (b ≤ a) && decide (a ≤ c))) ∧ Below w.heap.size w w' :=
  Calls.same_below (between_any a b c w)
set_option maxRecDepth 100000 in
theorem kinds_C (t : Int) (w : World) : Calls Try.prog 47 #[.int .i64 t] w fun e w' => ∃ A c, e = .returned (.slice A (kindsL t).length c) ∧ Own intEnc 1 3 w' w.heap.size (.slice A (kindsL t).length c) (kindsL t) ∧ Below w.heap.size w w' := by
  refine calls_T (S := []) [] Try.func47 rfl Try.ntmps47 (by simp) (Mem.nil _) ?_
  repeat' (first | (refine GO ?_) | (refine GOE ?_; (first | (rintro _ _ ⟨rfl, rfl⟩) | (rintro _ _ ⟨g, rfl, rfl⟩) | (rintro _ _ ⟨A', c', rfl, rfl⟩))) | ((refine GO2 ?_ ?_) <;> intro h <;> (try (repeat (first | with_reducible (replace h := of_decide_eq_true h) | with_reducible (replace h := of_decide_eq_false h) | with_reducible (replace h := bnt h) | with_reducible (replace h := bnf h) | with_reducible (replace h := Int.not_lt.mp h) | with_reducible (replace h := Int.not_le.mp h) | with_reducible (replace h := band_dec h) | with_reducible (replace h := band_decF h) | with_reducible (replace h := bor_dec h) | with_reducible (replace h := bor_decF h)))) <;> (try (exfalso; first | contradiction | omega))))
  all_goals (refine At_ret Try.results47 rfl (fun w' hw => ?_))
  all_goals try subst_vars
  all_goals first
    | exact ⟨_, _, rfl, hw.blkOut (enc := intEnc) [1, 2] rfl (by first | ((repeat (first | with_reducible exact List.mem_cons_self | with_reducible apply List.mem_cons_of_mem)); done) | (repeat (first | exact List.Mem.head _ | apply List.Mem.tail))) rfl (fun _ => rfl) (by decide), hw.below0 rfl⟩
    | exact ⟨_, _, rfl, hw.blkOut (enc := intEnc) [3, 4] rfl (by first | ((repeat (first | with_reducible exact List.mem_cons_self | with_reducible apply List.mem_cons_of_mem)); done) | (repeat (first | exact List.Mem.head _ | apply List.Mem.tail))) rfl (fun _ => rfl) (by decide), hw.below0 rfl⟩
    | exact ⟨_, _, rfl, hw.blkOut (enc := intEnc) [5, 6] rfl (by first | ((repeat (first | with_reducible exact List.mem_cons_self | with_reducible apply List.mem_cons_of_mem)); done) | (repeat (first | exact List.Mem.head _ | apply List.Mem.tail))) rfl (fun _ => rfl) (by decide), hw.below0 rfl⟩
    | exact ⟨_, _, rfl, hw.blkOut (enc := intEnc) [7, 8, 9] rfl (by first | ((repeat (first | with_reducible exact List.mem_cons_self | with_reducible apply List.mem_cons_of_mem)); done) | (repeat (first | exact List.Mem.head _ | apply List.Mem.tail))) rfl (fun _ => rfl) (by decide), hw.below0 rfl⟩
    | exact ⟨_, _, rfl, hw.blkOut (enc := intEnc) [10] rfl (by first | ((repeat (first | with_reducible exact List.mem_cons_self | with_reducible apply List.mem_cons_of_mem)); done) | (repeat (first | exact List.Mem.head _ | apply List.Mem.tail))) rfl (fun _ => rfl) (by decide), hw.below0 rfl⟩
    | (have e : kindsL t = [] := by simp [kindsL, *]
       rw [e]; exact ⟨none, 0, rfl, Own.nil _ _, hw.below0 rfl⟩)
theorem kindsC_len (t : Int) : (kindsL t).length ≤ 9223372036854775807 := by
  unfold kindsL
  repeat' split
  all_goals decide
theorem fits_C (t k : Int) (w : World) : Calls Try.prog 78 #[.int .i64 t, .int .i64 k] w fun e w' => e = .returned (.bool ((kindsL t).contains k)) ∧ Below w.heap.size w w' :=
  (Calls.same_below (fits_any t k w)).mono fun e w' h => by rw [← typeF_kinds]; exact h
theorem argument_C (k n : Int) (w : World) : Calls Try.prog 79 #[.int .i64 k, .int .i64 n] w fun e w' => e = .returned (.bool (argB k n)) ∧ Below w.heap.size w w' :=
  Calls.same_below (argument_any k n w)
end Go.Proofs.Ytaonijdhmgcbjaa

namespace Go.Proofs.Ytaonijdhmgcbjaa
open Go.RowKit

theorem flat_div {α : Type} {enc : α → List Value} {M : Nat} (hM : ∀ x, (enc x).length = M) (h0 : 0 < M) : ∀ (l : List α) (j : Nat), (l.flatMap enc)[j]? = (l[j / M]?).bind fun x => (enc x)[j % M]?
  | [], j => by simp
  | x :: l, j => by
    rw [List.flatMap_cons]
    rcases Nat.lt_or_ge j M with h | h
    · rw [List.getElem?_append_left (by rw [hM]; exact h), Nat.div_eq_of_lt h, Nat.mod_eq_of_lt h]
      simp
    · rw [List.getElem?_append_right (by rw [hM]; exact h), hM, flat_div hM h0 l (j - M), Nat.div_eq_sub_div h0 h, ← Nat.mod_eq_sub_mod h]
      simp
theorem Lies.rd {C : Ctx} {S : List Ent} {α : Type} {enc : α → List Value} {M : Nat} {l : List α} {A : Option Addr} {c : Nat} (hR : RdE enc M C.w0 A l) (hF : C.F = []) (hM : ∀ x, (enc x).length = M) (h0 : 0 < M) (hA : A = none → c = 0) : Lies C S (.slice A l.length c) l.length (l.flatMap enc) := by
  cases A with
  | none =>
    have hl : l = [] := by
      cases l with
      | nil => rfl
      | cons x l => obtain ⟨b, o, h, _⟩ := hR.open (by simp); cases h
    subst hl
    exact .inl ⟨rfl, rfl, by rw [hA rfl]; rfl⟩
  | some ad =>
    refine .inr ⟨ad, c, rfl, fun w hw j u hu => ?_⟩
    rw [flat_div hM h0, Option.bind_eq_some_iff] at hu
    obtain ⟨x, hx, hu⟩ := hu
    obtain ⟨b, o, he, hb, hc⟩ := hR (j / M) x hx
    cases he
    have := hc (j % M) u hu
    rw [add_mk]
    refine hw.old hb (by simp [hF]) ?_
    rw [← this]
    congr 2
    have := Nat.div_add_mod j M
    rw [Nat.mul_comm] at this
    omega
/-- a cell that was there -/
theorem Lds.old {P : Program} {C : Ctx} {S : List Ent} {s b k : Nat} {v : Value} [OneCell P s] (hb : b < C.w0.heap.size) (hF : b ∉ C.F) (hc : C.w0.cell? ⟨b, k, none⟩ = some v) : Lds P C S s ⟨b, k, none⟩ v :=
  Lds.one fun w hw => hw.old hb hF hc
end Go.Proofs.Ytaonijdhmgcbjaa

namespace Go.Proofs.Ytaonijdhmgcbjaa
open Go.RowKit

section
variable {P : Program} {C : Ctx} {E : Slots} {S : List Ent} {ty ty2 ty3 a b : Nat} {x y : Operand}
theorem QS_shrU64 {k : IntKind} (hx : evo E x = some (.int .u64 (a : Nat))) (hy : evo E y = some (.int k (b : Nat))) (ha : a < 18446744073709551616) : QS P C E S (.binOp .shr ty2 x y ty3) ty (.int .u64 ((a >>> b : Nat) : Int)) :=
  QS.of (fun _ w he _ => binShift he hx hy _ (by
    have := shr_nat a b 64 (by omega)
    have hn : ¬ ((b : Int) < 0) := by omega
    simp only [binOp, Op.shift, IntKind.bits, if_neg hn, Int.toNat_natCast, this]; rfl))
end
section
variable (A : Option Addr) (c : Nat) (s : List Int) (w : World) (hA : RdInt w A s) (hl : s.length ≤ 1000)
include hA hl
end
set_option maxRecDepth 100000 in
theorem cNaN_any (x : Int) (w : World) : Calls Try.prog 84 #[.int .i64 x] w fun e w' => e = .returned (.bool false) ∧ Below w.heap.size w w' := by
  refine calls_T (S := []) [] Try.func84 rfl Try.ntmps84 (by simp) (Mem.nil _) ?_
  repeat' (first | ((first | with_reducible (first | apply TL_q | apply TD_q0 | apply TD_q1 | apply TD_q2 | apply TD_q3) | ((with_reducible (first | apply TD_q0y | apply TD_q1y)); exact rfl; exact rfl; (with_reducible exact rfl))); (first | exact QS.auto | ((with_reducible apply QS_shrU64 (a := i + j) (b := 1)); exact rfl; exact rfl; omega)); exact rfl) | (refine GO ?_) | (refine GOE ?_; (first | (rintro _ _ ⟨rfl, rfl⟩) | (rintro _ _ ⟨g, rfl, rfl⟩) | (rintro _ _ ⟨A', c', rfl, rfl⟩))) | ((refine GO2 ?_ ?_) <;> intro h <;> (try (repeat (first | with_reducible (replace h := of_decide_eq_true h) | with_reducible (replace h := of_decide_eq_false h) | with_reducible (replace h := bnt h) | with_reducible (replace h := bnf h) | with_reducible (replace h := Int.not_lt.mp h) | with_reducible (replace h := Int.not_le.mp h) | with_reducible (replace h := band_dec h) | with_reducible (replace h := band_decF h) | with_reducible (replace h := bor_dec h) | with_reducible (replace h := bor_decF h)))) <;> (try (exfalso; first | contradiction | omega))) | fail)
  (refine At_ret Try.results84 rfl (fun w' hw => ?_))
  exact ⟨by simp [resVal], hw.below0 rfl⟩
section
variable (A : Option Addr) (c : Nat) (s : List Int) (a : Int) (w : World) (hA : RdInt w A s) (hl : s.length ≤ 1000) (hs : Asc s)
include hA hl hs
end
end Go.Proofs.Ytaonijdhmgcbjaa

namespace Go.Proofs.Ytaonijdhmgcbjaa
open Go.RowKit

section
variable {P : Program} {C : Ctx} {E : Slots} {S : List Ent} {t e m g p n c : Nat} {x y : Operand} {ty : TypeId}
theorem QS_sliceHighZ [hs : SliceOf P t e m] {k : IntKind} {j : Nat} {z : Int} (hx : evo E x = some (.slice (some ⟨g, p, none⟩) n c)) (hy : evo E y = some (.int k z)) (hz : z = (j : Nat)) (hj : j ≤ c) :
    QS P C E S (.slice t x none (some y) none) ty (.slice (some ⟨g, p, none⟩) j c) := QS_sliceHigh hx (by rw [hy, hz]) hj
end
section
variable {C : Ctx} {w : World} {S : List Ent} {α : Type} {enc : α → List Value} {M et c g o : Nat} {A : Option Addr} {ls l : List α}
theorem RdE.drop (h : RdE enc M w (some ⟨g, o, Option.none⟩) l) (k : Nat) : RdE enc M w (some ⟨g, o + k * M, Option.none⟩) (l.drop k) := by
  intro i x hx
  rw [List.getElem?_drop] at hx
  obtain ⟨b, o', he, hb, hc⟩ := h (k + i) x hx
  cases he
  refine ⟨g, o + k * M, rfl, hb, fun j v hv => ?_⟩
  have := hc j v hv
  rwa [Nat.add_mul, ← Nat.add_assoc] at this
end
section
variable (A : Option Addr) (c : Nat) (s : List Int) (a : Int) (w : World) (hl : s.length ≤ 50) (hm : Mem ⟨0, blks [entOwn intEnc 1 3 A c s], w⟩ w [entOwn intEnc 1 3 A c s])
include hl hm
end
end Go.Proofs.Ytaonijdhmgcbjaa

namespace Go.Proofs.Ytaonijdhmgcbjaa
open Go.RowKit

set_option maxRecDepth 100000 in
theorem asked_any (typ kind a : Int) (w : World) : Calls Try.prog 60 #[.int .i64 typ, .int .i64 kind, .int .i64 a] w fun e w' => e = .returned (.bool ((kindsL typ).contains kind && argB kind a)) ∧ Below w.heap.size w w' := by
  have hk := fun w => kinds_C typ w
  have hl := kindsC_len typ
  generalize kindsL typ = l at *
  have hc := fun A c w h => contains_any A c l kind w hl h
  generalize l.contains kind = z at *
  have ha := fun w => asks_any kind a w
  generalize argB kind a = z2 at *
  refine calls_T (S := []) [] Try.func60 rfl Try.ntmps60 (by simp) (Mem.nil _) ?_
  repeat' (first | ((first | with_reducible (first | apply TL_q | apply TD_q0 | apply TD_q1 | apply TD_q2 | apply TD_q3) | ((with_reducible (first | apply TD_q0y | apply TD_q1y)); exact rfl; exact rfl; (with_reducible exact rfl))); (first | exact QS.auto | ((with_reducible apply QS_sliceHighZ (j := s.length - 1)); exact rfl; exact rfl; omega; omega)); exact rfl) | (refine GO ?_) | (refine GOE ?_; (first | (rintro _ _ ⟨rfl, rfl⟩) | (rintro _ _ ⟨g, rfl, rfl⟩) | (rintro _ _ ⟨A', c', rfl, rfl⟩))) | ((refine GO2 ?_ ?_) <;> intro h <;> (try (repeat (first | with_reducible (replace h := of_decide_eq_true h) | with_reducible (replace h := of_decide_eq_false h) | with_reducible (replace h := bnt h) | with_reducible (replace h := bnf h) | with_reducible (replace h := Int.not_lt.mp h) | with_reducible (replace h := Int.not_le.mp h) | with_reducible (replace h := band_dec h) | with_reducible (replace h := band_decF h) | with_reducible (replace h := bor_dec h) | with_reducible (replace h := bor_decF h)))) <;> (try (exfalso; first | contradiction | omega))) | ((with_reducible (first | apply TD_e2z | apply TD_e3z | apply TL_e | apply TD_e2 | apply TD_e3)); ((with_reducible apply ES_callOwn (f := 47)); exact rfl; (intro w hw; exact hk w); exact rfl); (first | exact rfl | exact ⟨rfl, rfl, rfl⟩); (rintro _ _ ⟨A1, c1, rfl, rfl⟩); (try refine ⟨SUB, ?_⟩)) | ((with_reducible (first | apply TD_e2z | apply TD_e3z | apply TL_e | apply TD_e2 | apply TD_e3)); ((with_reducible apply ES_callV (f := 46)); exact rfl; (intro w hw; exact hc _ _ w (hw.ownRd (by first | ((repeat (first | with_reducible exact List.mem_cons_self | with_reducible apply List.mem_cons_of_mem)); done) | (repeat (first | exact List.Mem.head _ | apply List.Mem.tail))) (fun _ => rfl))); exact rfl); (first | exact rfl | exact ⟨rfl, rfl, rfl⟩); (rintro _ _ ⟨rfl, rfl⟩); (try refine ⟨SUB, ?_⟩)) | ((with_reducible (first | apply TD_e2z | apply TD_e3z | apply TL_e | apply TD_e2 | apply TD_e3)); ((with_reducible apply ES_callV (f := 48)); exact rfl; (intro w hw; exact ha w); exact rfl); (first | exact rfl | exact ⟨rfl, rfl, rfl⟩); (rintro _ _ ⟨rfl, rfl⟩); (try refine ⟨SUB, ?_⟩)) | fail)
  all_goals (refine At_ret Try.results60 rfl (fun w' hw => ?_))
  all_goals exact ⟨by simp [resVal, *], hw.below0 rfl⟩
end Go.Proofs.Ytaonijdhmgcbjaa

namespace Go.Proofs.Ytaonijdhmgcbjaa
open Go.ChangeShapes Go.WideShapes Go.ChangeAt Go.RowKit Go.Deep

section
variable {H : Type} {enc : TypeId × Value → H} {P : Program}

/-- arguments read on as they read, where what was there is as it was -/
theorem trodAll_kept (hl : laidOutB P = true) {W W' : World} (hb : Below W.heap.size W W') {sp : Nat → Bool} :
    ∀ {ts : List TypeId} {vs : List Value} {ds : List (DataW H)} {p : List MemPlace}, (∀ t ∈ ts, P.readableRec t = true ∧ t < P.types.size) → (∀ x ∈ p, x.block < W.heap.size) → (∀ x ∈ p, sp x.block = true) →
      DataW.TrodAll enc P W 0 (fun _ => true) true ts vs ds p → DataW.TrodAll enc P W' 0 sp true ts vs ds p
  | [], _, _, _, _, _, _, h => by
    obtain ⟨rfl, rfl, rfl⟩ := trodAll_nil h
    exact trodAll_mk0
  | t :: ts, _, _, _, ht, hp, hs, h => by
    obtain ⟨v, vs, d, ds, a, b, rfl, rfl, rfl, h1, h2⟩ := trodAll_cons h
    obtain ⟨hr, hrow⟩ := ht t (List.mem_cons_self ..)
    refine ⟨a, b, WideElems.Trod_stays hl hr hrow h1 (fun x hx => hb.same (hp x (List.mem_append_left _ hx))) (fun x hx => hs x (List.mem_append_left _ hx)), ?_, rfl⟩
    exact trodAll_kept hl hb (fun t' h' => ht t' (List.mem_cons_of_mem _ h')) (fun x hx => hp x (List.mem_append_right _ hx)) (fun x hx => hs x (List.mem_append_right _ hx)) h2

/-- a law's row behind a walk that ends in 'true' -/
theorem law_post {f : Func} {s : ChangeSpec} {W W' : World} {args : Array Value} {tb : TypeId} {ds gs : List (DataW H)} {before : List MemPlace}
    (hl : laidOutB P = true) (hr : (f.params.toList.all fun t => P.readableRec t && decide (t < P.types.size)) = true) (hv : s.vars = []) (hrt : f.resultTypes = #[tb]) (htb : P.underlying tb = some .bool)
    (hW : DataW.Whole enc P f.params.toList s.vars false W args.toList ds gs before)
    (hs : gs = [] → s.fn H (ds ++ gs) = { results := [.lit (.bool true)], args := ds })
    (hb : Below W.heap.size W W') : s.post enc P f false true false false W args (.bool true) W' := by
  have hlt : ∀ p ∈ before, p.block < W.heap.size := fun p hp => hW.lt p hp
  have hW' := hW
  obtain ⟨p, q, hA, hV, rfl, hfz, hnd⟩ := hW
  rw [hv] at hV
  obtain ⟨rfl, rfl⟩ := trodVars_none hV
  simp only [List.append_nil] at hlt
  have hf := hs rfl
  have hfv : (s.fn H (ds ++ [])).vars = [] := by rw [hf]
  have hr' : ∀ t ∈ f.params.toList, P.readableRec t = true ∧ t < P.types.size := fun t ht => by
    have := List.all_eq_true.1 hr t ht
    simpa using this
  refine ⟨ds, [], p ++ [], [], p, [], hW', ?_, ?_, ?_, ?_, fun h => by cases h⟩
  · rw [hf, hrt]
    exact trodAll_mk1 (shut_bool htb _)
  · rw [hf]
    exact trodAll_kept hl hb hr' hlt (fun x hx => by simpa using hlt x hx) hA
  · rw [hv, hfv]; exact rfl
  · exact hb.frame _

/-- a slice of structs whose fields are all ints: each field of each element by its place -/
theorem open_int_rows {w : World} {base : Nat} {spare : Nat → Bool} {held : Bool} {t e ti : TypeId} {fs : Array Field} {fuel : Nat} {cs : List Value} {x : DataW H × List MemPlace}
    (ht : P.underlying t = some (.slice e)) (he : P.underlying e = some (.struct fs)) (hone : oneCellFields P fs = true) (hC : P.cellsOf e = fs.size) (hti : P.underlying ti = some (.int .i64)) (hfs : (fs.toList.all fun f => f.type == ti) = true)
    (h : DataW.trod enc P w base spare held fuel t cs = some x) :
    ∃ (A : Option Addr) (len cap : Nat) (Z : Nat → Nat → Int), cs = [.slice A len cap] ∧ len ≤ maxLen ∧ len ≤ cap ∧
      ∀ i, i < len → ∀ j, j < fs.size → (Lit.int .i64 (Z i j)).wf = true ∧ ∃ b o, A = some ⟨b, o, none⟩ ∧ b < w.heap.size ∧ w.cell? ⟨b, o + i * fs.size + j, none⟩ = some (.int .i64 (Z i j)) := by
  rcases open_slice ht h with ⟨rfl, rfl⟩ | ⟨a, len, cap, m, n, D, Pl, rfl, hb, hl, hm, hmm, hx, hi⟩
  · exact ⟨none, 0, 0, fun _ _ => 0, rfl, by omega, by omega, fun i hi => by omega⟩
  have hlm : len ≤ m := by rw [hmm]; split <;> omega
  have key : ∀ i, i < len → ∀ j, j < fs.size → ∃ z, (Lit.int .i64 z).wf = true ∧ w.cell? (a.add (i * fs.size + j)) = some (.int .i64 z) := by
    intro i hil j hj
    obtain ⟨cs', hc, htr⟩ := hi i (by omega)
    rw [hC] at hc
    obtain ⟨ys, n', _, _, hlen, _, hf⟩ := DataW.trod_struct he htr
    obtain ⟨_, _, hat⟩ := World.cells?_some hc
    obtain ⟨ho, hk⟩ := hone_of hone j fs[j] (by simp [hj])
    have hty : fs[j].type = ti := by
      have := List.all_eq_true.1 hfs fs[j] (by simp)
      simpa using this
    have h1 := hf j fs[j] (by simp [hj])
    rw [ho, hk] at h1
    have hl' : cs'.length = fs.size := by rw [hlen, hC]
    have hd : (cs'.drop j).take 1 = [cs'[j]'(by omega)] := by
      rw [List.drop_eq_getElem_cons (by omega)]
      rfl
    rw [hd, hty] at h1
    have hys : ys[j]? = some (ys[j]'(by omega)) := List.getElem?_eq_getElem (by omega)
    obtain ⟨z, hz1, _, hwf⟩ := DataW.trod_int hti (h1.trans hys)
    refine ⟨z, hwf, ?_⟩
    rw [← Go.Deep.add_add, hat j hj, List.getElem?_eq_getElem (by omega)]
    simpa using hz1
  have hfun : ∃ Z : Nat → Nat → Int, ∀ i, i < len → ∀ j, j < fs.size → (Lit.int .i64 (Z i j)).wf = true ∧ w.cell? (a.add (i * fs.size + j)) = some (.int .i64 (Z i j)) := by
    classical
    refine ⟨fun i j => if hh : i < len ∧ j < fs.size then Classical.choose (key i hh.1 j hh.2) else 0, fun i hi' j hj => ?_⟩
    simp only [dif_pos (show i < len ∧ j < fs.size from ⟨hi', hj⟩)]
    exact Classical.choose_spec (key i hi' j hj)
  obtain ⟨Z, hZ⟩ := hfun
  refine ⟨some a, len, cap, Z, rfl, by omega, hl, fun i hi' j hj => ⟨(hZ i hi' j hj).1, a.block, a.off, ?_, ?_, ?_⟩⟩
  · have := (hZ i hi' j hj).2
    have hsp : a.spot = none := by
      obtain ⟨ab, ao, spo⟩ := a
      cases spo with
      | none => rfl
      | some s =>
        have h0 := (hZ i hi' 0 (by omega)).2
        have h00 := (hZ 0 (by omega) 0 (by omega)).2
        simp [Addr.add, World.cell?] at h00
        split at h00 <;> simp_all
    cases a; simp_all
  · have := block_lt_of_cell (hZ i hi' j hj).2
    unfold Addr.add at this
    split at this <;> exact this
  · have h1 := (hZ i hi' j hj).2
    have h0 := (hZ 0 (by omega) 0 (by omega)).2
    rw [← h1]
    congr 1
    unfold Addr.add
    split
    · rename_i h2
      obtain ⟨ab, ao, spo⟩ := a
      cases spo with
      | none => simp; omega
      | some s => simp [Addr.add, World.cell?] at h0; split at h0 <;> simp_all
    · simp [Nat.add_assoc]
end

/-- the rows so opened read as a list of whatever is made of their fields -/
theorem rdE_of_rows {α : Type} {w : World} {A : Option Addr} {n m : Nat} {Z : Nat → Nat → Int} (mk : (Nat → Int) → α) (enc : α → List Value) (hm : 0 < m)
    (henc : ∀ z : Nat → Int, ∀ j v, (enc (mk z))[j]? = some v → j < m ∧ v = .int .i64 (z j))
    (hZ : ∀ i, i < n → ∀ j, j < m → (Lit.int .i64 (Z i j)).wf = true ∧ ∃ b o, A = some ⟨b, o, none⟩ ∧ b < w.heap.size ∧ w.cell? ⟨b, o + i * m + j, none⟩ = some (.int .i64 (Z i j))) :
    RdE enc m w A ((List.range n).map fun i => mk (Z i)) := by
  intro i x hx
  have hi : i < n := by
    have := (List.getElem?_eq_some_iff.1 hx).1
    simpa using this
  have hx' : mk (Z i) = x := by simpa [hi] using hx
  subst hx'
  obtain ⟨_, b, o, e1, e2, _⟩ := hZ i hi 0 hm
  refine ⟨b, o, e1, e2, fun j v hv => ?_⟩
  obtain ⟨hj, rfl⟩ := henc _ _ _ hv
  obtain ⟨_, b', o', f1, _, f3⟩ := hZ i hi j hj
  obtain ⟨rfl, rfl⟩ : b = b' ∧ o = o' := by rw [e1] at f1; simpa using f1
  exact f3

theorem own : ownKnob Try.prog.godebug = none := by kernel_rfl
theorem laidOut : laidOutB Try.prog = true := by kernel_rfl
end Go.Proofs.Ytaonijdhmgcbjaa

namespace Go.Proofs.Ytaonijdhmgcbjaa
open Go.RowKit

/-- a header: where a row lies -/
structure Hd where
  a : Option Addr
  n : Nat
  c : Nat
def Hd.v (h : Hd) : Value := .slice h.a h.n h.c
def hdEnc (h : Hd) : List Value := [.slice h.a h.n h.c]
theorem Own.same {α : Type} {enc : α → List Value} {M e : Nat} {w w' : World} {v : Value} {l : List α} (h : ∀ g, v.ownBlock = some g → w'.heap[g]? = w.heap[g]?) (hp : Own enc M e w 0 v l) : Own enc M e w' 0 v l := by
  refine ⟨hp.1, ?_⟩
  rcases hp.2 with hn | ⟨g, cap, cur, hv, hbb, hg, rest⟩
  · exact .inl hn
  · refine .inr ⟨g, cap, cur, hv, hbb, (h g ?_).trans hg, rest⟩
    rw [hv]; rfl
section
variable {C : Ctx} {w w' : World} {S S1 S' : List Ent} {α : Type} {enc : α → List Value} {M e : Nat} {hs : List Hd} {rows : List (List α)} {l : List α} {A : Option Addr} {c : Nat}
end
section
variable {P : Program} {C : Ctx} {E : Slots} {S : List Ent} {f d ty : Nat} {ps : String} {af : Array Edge} {g0 : Option (Nat × Bool)} {α : Type} {enc : α → List Value} {M e e2 : Nat} {rows : List (List α)}
end
end Go.Proofs.Ytaonijdhmgcbjaa

namespace Go.Proofs.Ytaonijdhmgcbjaa
open Go.ChangeShapes Go.WideShapes Go.ChangeAt Go.RowKit Go.Deep

theorem open_row_rows {H : Type} {enc : TypeId × Value → H} {P : Program} {w : World} {base : Nat} {spare : Nat → Bool} {held : Bool} {t e e2 ti : TypeId} {fs : Array Field} {fuel : Nat} {cs : List Value} {x : DataW H × List MemPlace}
    (ht : P.underlying t = some (.slice e)) (hce : P.cellsOf e = 1) (het : P.underlying e = some (.slice e2)) (he : P.underlying e2 = some (.struct fs)) (hone : oneCellFields P fs = true) (hC : P.cellsOf e2 = fs.size) (hti : P.underlying ti = some (.int .i64)) (hfs : (fs.toList.all fun f => f.type == ti) = true)
    (h : DataW.trod enc P w base spare held fuel t cs = some x) :
    ∃ (A : Option Addr) (len cap : Nat) (hd : Nat → Hd) (Z : Nat → Nat → Nat → Int), cs = [.slice A len cap] ∧ len ≤ maxLen ∧ len ≤ cap ∧
      ∀ i, i < len → (∃ b o, A = some ⟨b, o, none⟩ ∧ b < w.heap.size ∧ w.cell? ⟨b, o + i, none⟩ = some (hd i).v) ∧ (hd i).n ≤ maxLen ∧ (hd i).n ≤ (hd i).c ∧
        ∀ k, k < (hd i).n → ∀ j, j < fs.size → (Lit.int .i64 (Z i k j)).wf = true ∧ ∃ b o, (hd i).a = some ⟨b, o, none⟩ ∧ b < w.heap.size ∧ w.cell? ⟨b, o + k * fs.size + j, none⟩ = some (.int .i64 (Z i k j)) := by
  rcases open_slice ht h with ⟨rfl, rfl⟩ | ⟨a, len, cap, m, n, D, Pl, rfl, hb, hl, hm, hmm, hx, hi⟩
  · exact ⟨none, 0, 0, fun _ => ⟨none, 0, 0⟩, fun _ _ _ => 0, rfl, by omega, by omega, fun i hi => by omega⟩
  have hlm : len ≤ m := by rw [hmm]; split <;> omega
  have key : ∀ i, i < len → ∃ y : Hd × (Nat → Nat → Int), w.cell? (a.add i) = some y.1.v ∧ y.1.n ≤ maxLen ∧ y.1.n ≤ y.1.c ∧
      ∀ k, k < y.1.n → ∀ j, j < fs.size → (Lit.int .i64 (y.2 k j)).wf = true ∧ ∃ b o, y.1.a = some ⟨b, o, none⟩ ∧ b < w.heap.size ∧ w.cell? ⟨b, o + k * fs.size + j, none⟩ = some (.int .i64 (y.2 k j)) := by
    intro i hil
    obtain ⟨cs', hc, htr⟩ := hi i (by omega)
    rw [hce, Nat.mul_one] at hc
    obtain ⟨A', n', c', Z, rfl, h1, h2, h3⟩ := open_int_rows het he hone hC hti hfs htr
    obtain ⟨_, _, hat⟩ := World.cells?_some hc
    have h0 := hat 0 (by omega)
    refine ⟨⟨⟨A', n', c'⟩, Z⟩, ?_, h1, h2, h3⟩
    rw [Go.Deep.add_add] at h0
    simpa [Hd.v] using h0
  have hfun : ∃ f : Nat → Hd × (Nat → Nat → Int), ∀ i, i < len → w.cell? (a.add i) = some (f i).1.v ∧ (f i).1.n ≤ maxLen ∧ (f i).1.n ≤ (f i).1.c ∧
      ∀ k, k < (f i).1.n → ∀ j, j < fs.size → (Lit.int .i64 ((f i).2 k j)).wf = true ∧ ∃ b o, (f i).1.a = some ⟨b, o, none⟩ ∧ b < w.heap.size ∧ w.cell? ⟨b, o + k * fs.size + j, none⟩ = some (.int .i64 ((f i).2 k j)) := by
    classical
    refine ⟨fun i => if hh : i < len then Classical.choose (key i hh) else ⟨⟨none, 0, 0⟩, fun _ _ => 0⟩, fun i hi' => ?_⟩
    simp only [dif_pos hi']
    exact Classical.choose_spec (key i hi')
  obtain ⟨f, hf⟩ := hfun
  refine ⟨some a, len, cap, fun i => (f i).1, fun i => (f i).2, rfl, by omega, hl, fun i hi' => ⟨⟨a.block, a.off, ?_, ?_, ?_⟩, (hf i hi').2⟩⟩
  · have h0 := (hf 0 (by omega)).1
    obtain ⟨ab, ao, spo⟩ := a
    cases spo with
    | none => rfl
    | some s => simp [Addr.add, World.cell?] at h0; split at h0 <;> simp_all
  · have := block_lt_of_cell (hf i hi').1
    unfold Addr.add at this
    split at this <;> exact this
  · have h0 := (hf 0 (by omega)).1
    rw [← (hf i hi').1]
    congr 1
    obtain ⟨ab, ao, spo⟩ := a
    cases spo with
    | none => simp [Addr.add]
    | some s => simp [Addr.add, World.cell?] at h0; split at h0 <;> simp_all
/-- a list of lists, to be read: the headers, and each row -/
def RdRows {α : Type} (enc : α → List Value) (M : Nat) (w : World) (A : Option Addr) (hs : List Hd) (rows : List (List α)) : Prop :=
  RdE hdEnc 1 w A hs ∧ hs.length = rows.length ∧ ∀ j (h1 : j < hs.length) (h2 : j < rows.length), hs[j].n = rows[j].length ∧ rows[j].length ≤ hs[j].c ∧ rows[j].length ≤ 9223372036854775807 ∧ RdE enc M w hs[j].a rows[j]
theorem rdRows_of {α : Type} {w : World} {A : Option Addr} {n m : Nat} {hd : Nat → Hd} {Z : Nat → Nat → Nat → Int} (mk : (Nat → Int) → α) (enc : α → List Value) (hm : 0 < m)
    (henc : ∀ z : Nat → Int, ∀ j v, (enc (mk z))[j]? = some v → j < m ∧ v = .int .i64 (z j))
    (hZ : ∀ i, i < n → (∃ b o, A = some ⟨b, o, none⟩ ∧ b < w.heap.size ∧ w.cell? ⟨b, o + i, none⟩ = some (hd i).v) ∧ (hd i).n ≤ maxLen ∧ (hd i).n ≤ (hd i).c ∧
        ∀ k, k < (hd i).n → ∀ j, j < m → (Lit.int .i64 (Z i k j)).wf = true ∧ ∃ b o, (hd i).a = some ⟨b, o, none⟩ ∧ b < w.heap.size ∧ w.cell? ⟨b, o + k * m + j, none⟩ = some (.int .i64 (Z i k j))) :
    RdRows enc m w A ((List.range n).map hd) ((List.range n).map fun i => (List.range (hd i).n).map fun k => mk (Z i k)) := by
  refine ⟨fun i x hx => ?_, by simp, fun j h1 h2 => ?_⟩
  · have hi : i < n := by
      have := (List.getElem?_eq_some_iff.1 hx).1
      simpa using this
    have hx' : hd i = x := by simpa [hi] using hx
    subst hx'
    obtain ⟨⟨b, o, e1, e2, e3⟩, _⟩ := hZ i hi
    refine ⟨b, o, e1, e2, fun j v hv => ?_⟩
    match j, hv with
    | 0, hv =>
      have : (hd i).v = v := by simpa [hdEnc, Hd.v] using hv
      rw [← this, Nat.mul_one, Nat.add_zero]
      exact e3
    | j + 1, hv => simp [hdEnc] at hv
  · have hj : j < n := by simpa using h1
    obtain ⟨_, h3, h4, h5⟩ := hZ j hj
    unfold maxLen at h3
    simp only [List.getElem_map, List.getElem_range, List.length_map, List.length_range]
    exact ⟨trivial, h4, by omega, rdE_of_rows mk enc hm henc h5⟩
end Go.Proofs.Ytaonijdhmgcbjaa
