/- Relations: has, Ahead, before, Check, RelRight, closed, Close, acyclic: what each computes, for every relation. -/
import Derived.Test.YtkhdihieepfcpaaRel
import Derived.Test.YtkhdihieepfcpaaBetween
import Derived.Test.YtkhdihieepfcpaaRead
import Derived.RegionTactic
import Derived.BigRegion
import Derived.Laws.BitsAllLaws
import Derived.Laws.ShiftsVarLaws
import Derived.Test.YtkhdihieepfcpaaBits
namespace Go.Proofs.Ytkhdihieepfcpaa
open Go.RowKit
attribute [local go_sem ↓] run_eql_rel run_eqGuard_rel exec_load_rel exec_store_rel
attribute [local go_sem] relCells_size relCells_ones relCells_get0 relCells_getS


theorem tb_rem (x j : Nat) : (((x : Int) / 2 ^ j).tmod 2 == 1) = x.testBit j := by
  have e : ((x : Int) / 2 ^ j) = ((x / 2 ^ j : Nat) : Int) := by simp
  rw [e, Int.tmod_eq_emod_of_nonneg (Int.natCast_nonneg _), Nat.testBit_eq_decide_div_mod_eq]
  generalize x / 2 ^ j = y
  by_cases h : y % 2 = 1
  · have : ((y : Int) % 2 == 1) = true := by simp; omega
    simp [h, this]
  · have : ((y : Int) % 2 == 1) = false := by simp; omega
    simp [h, this]
theorem tb_and (x j : Nat) (hx : x < 65536) : (bits BinOp.and IntKind.u16 ((x : Int) / 2 ^ j) 1 == 1) = x.testBit j := by
  have e : ((x : Int) / 2 ^ j) = ((x / 2 ^ j : Nat) : Int) := by simp
  have hy : x / 2 ^ j < 65536 := Nat.lt_of_le_of_lt (Nat.div_le_self _ _) hx
  rw [e, Nat.testBit_eq_decide_div_mod_eq]
  generalize x / 2 ^ j = y at *
  have := u16_and_nat y 1 hy (by omega)
  rw [Nat.and_one_is_mod] at this
  rw [show (1 : Int) = ((1 : Nat) : Int) from rfl, this]
  by_cases h : y % 2 = 1
  · simp [h]
  · have : (((y % 2 : Nat) : Int) == ((1 : Nat) : Int)) = false := by rw [beq_eq_false_iff_ne]; omega
    rw [this]; simp [h]
theorem tb_and0 (x j : Nat) (hx : x < 65536) : (bits BinOp.and IntKind.u16 ((x : Int) / 2 ^ j) 1 == 0) = !x.testBit j := by
  have e : ((x : Int) / 2 ^ j) = ((x / 2 ^ j : Nat) : Int) := by simp
  have hy : x / 2 ^ j < 65536 := Nat.lt_of_le_of_lt (Nat.div_le_self _ _) hx
  rw [e, Nat.testBit_eq_decide_div_mod_eq]
  generalize x / 2 ^ j = y at *
  have := u16_and_nat y 1 hy (by omega)
  rw [Nat.and_one_is_mod] at this
  rw [show (1 : Int) = ((1 : Nat) : Int) from rfl, this]
  by_cases h : y % 2 = 1
  · simp [h]
  · have : (((y % 2 : Nat) : Int) == 0) = true := by rw [beq_iff_eq]; omega
    rw [this]; simp [h]

set_option maxHeartbeats 1000000 in
theorem ahead_any (n : Int) (f : Nat → Nat) (i j : Nat) (w : World) (hi : i < 12) (hj : j < 16) :
    Calls Try.prog 24 #[.agg (relCells n f), .int .i64 i, .int .i64 j] w fun e w' => e = .returned (.bool ((f i).testBit j)) ∧ Below w.heap.size w w' := by
  have hi' : (i : Int) < 12 := by omega
  have a1 := relCells_at n f i hi
  go_enter Try.func24, Try.ntmps24
  go_wp2_with (fail)
  go_ret
  exact ⟨ret_bool (tb_rem _ _), by (repeat (first | assumption | exact Below.refl _ _ | refine bel_alloc ?_ _ | refine Below.drew ?_ | refine below_drewN' ?_ _ | (refine bel_set ?_ (by first | (simp; done) | (simp; omega)) _) | (refine bel_row ?_ (by first | (simp; done) | (simp; omega)) _)))⟩
set_option maxHeartbeats 1000000 in
theorem has_any (n : Int) (f : Nat → Nat) (i j : Nat) (w : World) (hi : i < 12) (hj : j < 16) (hf : f i < 65536) :
    Calls Try.prog 74 #[.agg (relCells n f), .int .i64 i, .int .i64 j] w fun e w' => e = .returned (.bool ((f i).testBit j)) ∧ Below w.heap.size w w' := by
  have hi' : (i : Int) < 12 := by omega
  have a1 := relCells_at n f i hi
  go_enter Try.func74, Try.ntmps74
  go_wp2_with (fail)
  go_ret
  exact ⟨ret_bool (tb_and _ _ hf), by (repeat (first | assumption | exact Below.refl _ _ | refine bel_alloc ?_ _ | refine Below.drew ?_ | refine below_drewN' ?_ _ | (refine bel_set ?_ (by first | (simp; done) | (simp; omega)) _) | (refine bel_row ?_ (by first | (simp; done) | (simp; omega)) _)))⟩

/-- those that stand ahead of one -/
def befF (f : Nat → Nat) (j n : Nat) : Nat := bitsTo (fun i => (f i).testBit j) n

set_option maxRecDepth 20000 in
set_option maxHeartbeats 1000000 in
theorem before_any (n : Nat) (f : Nat → Nat) (j : Nat) (w : World) (hn : n ≤ 12) (hj : j < 16) (hf : ∀ i, i < 12 → f i < 65536) :
    Calls Try.prog 130 #[.agg (relCells n f), .int .i64 j] w fun e w' => e = .returned (.int .u16 (befF f j n)) ∧ Below w.heap.size w w' := by
  have Hf := Lib.hid hf
  clear hf
  go_enter Try.func130, Try.ntmps130
  go_wp2_with (fail)
  go_loopw [5, 9] (fun o i wr => ∃ k : Nat, k ≤ n ∧ i = .int .i64 k ∧ o = .int .u16 (befF f j k) ∧ Below w.heap.size w wr ∧ Blk wr w.heap.size 37 (relCells n f)) (fun _ i _ => n - (intOf i).toNat)
  case atStart => exact ⟨0, by omega, rfl, rfl, by (repeat (first | assumption | exact Below.refl _ _ | refine bel_alloc ?_ _ | refine Below.drew ?_ | refine below_drewN' ?_ _ | (refine bel_set ?_ (by first | (simp; done) | (simp; omega)) _) | (refine bel_row ?_ (by first | (simp; done) | (simp; omega)) _))), Blk.new _ _ _⟩
  case round =>
    obtain ⟨k, hk, rfl, rfl, hbel, hblk⟩ := hrel
    have hrow := hblk.rowOf
    by_cases hlt : k < n
    · have hs : befF f j (k + 1) = befF f j k + if (f k).testBit j then 2 ^ k else 0 := rfl
      have Hs := Lib.hid hs; clear hs
      by_cases hb : (f k).testBit j = true
      · have Hb := Lib.hid hb; clear hb
        go_wp2_with (go_at_call 74; refine (has_any _ f k j _ (by omega) (by omega) (Hf.out k (by omega))).mono ?_; rintro e w1 ⟨rfl, hb1⟩; rw [Hb.out])
        go_roundw
        case rel => exact ⟨k + 1, by omega, by go_num, congrArg (Value.int .u16) (or_bit _ (by omega) Hb.out), by exact bel_trans hbel hb1, hblk.carry hb1⟩
        case measure => simp [intOf]; omega
      · have Hb := Lib.hid (Bool.eq_false_iff.2 hb); clear hb
        go_wp2_with (go_at_call 74; refine (has_any _ f k j _ (by omega) (by omega) (Hf.out k (by omega))).mono ?_; rintro e w1 ⟨rfl, hb1⟩; rw [Hb.out])
        go_roundw
        case rel => exact ⟨k + 1, by omega, by go_num, by rw [Hs.out, Hb.out]; rfl, bel_trans hbel hb1, hblk.carry hb1⟩
        case measure => simp [intOf]; omega
    · obtain rfl : k = n := by omega
      go_wp2_with (fail)
      go_ret
      exact ⟨rfl, hbel⟩
end Go.Proofs.Ytkhdihieepfcpaa
