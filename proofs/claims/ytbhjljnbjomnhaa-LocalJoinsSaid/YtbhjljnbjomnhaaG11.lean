/- Lemmas for the walks (LocL, Stp, Ahd, Order1, Order2, Order3, Order4). No condition. -/
import Derived.Test.YtbhjljnbjomnhaaG10
import Derived.Test.YtbhjljnbjomnhaaG07
import Derived.Test.YtbhjljnbjomnhaaG08
import Derived.Test.YtbhjljnbjomnhaaG06
import Derived.Test.YtbhjljnbjomnhaaG01
import Derived.RegionTactic
import Derived.BigRegion
import Derived.Laws.BitsAllLaws
import Derived.Laws.ShiftsVarLaws
import Derived.Test.YtbhjljnbjomnhaaG09
import Derived.Deep.MidRow
import Derived.Laws.ResultCell
import Derived.Test.YtbhjljnbjomnhaaG05
set_option linter.unusedSimpArgs false
set_option linter.unusedVariables false
set_option linter.unusedSectionVars false
set_option linter.unnecessarySimpa false
namespace Go.Proofs.Ytbhjljnbjomnhaa
open Go.RowKit

theorem atL_succ (cs : List Cl) (t : Int) {k : Nat} (hk : k < cs.length) : atL cs t (k + 1) = if cs[k].thing = t then atL cs t k ++ [(k : Int)] else atL cs t k := by
  rw [atL, show cs.getD k default = cs[k] by simp [hk]]
theorem bigT_at {ts : List Int} {cs : List Cl} {t : Nat} (ht : t < ts.length) (h : 9 < (atL cs (t : Int) cs.length).length ∨ 12 < cs.length) : bigT ts cs = true := by
  unfold bigT
  rw [Bool.or_eq_true, List.any_eq_true]
  rcases h with h | h
  · exact .inr ⟨t, List.mem_range.2 ht, decide_eq_true h⟩
  · exact .inl (decide_eq_true h)
theorem bigT_no {ts : List Int} {cs : List Cl} (h12 : cs.length ≤ 12) (h : ∀ t, t < ts.length → (atL cs (t : Int) cs.length).length ≤ 9) : bigT ts cs = false := by
  unfold bigT
  rw [Bool.or_eq_false_iff, List.any_eq_false]
  refine ⟨decide_eq_false (by omega), fun t ht => ?_⟩
  rw [decide_eq_true_eq]
  have := h t (List.mem_range.1 ht)
  omega
section
variable (A0 B0 : Option Addr) (c0 d0 : Nat) (ts : List Int) (l : List Ev) (w : World) (hts : ts.length ≤ 9223372036854775807) (hl : l.length ≤ 9223372036854775807) (hT : RdInt w A0 ts) (hA : RdEv w B0 l)
include hts hl hT hA
set_option maxRecDepth 100000 in
set_option maxHeartbeats 4000000 in
theorem locals_any : Calls Try.prog 12 #[.slice A0 ts.length c0, .slice B0 l.length d0] w fun e w' => ∃ A c, e = .returned (.tuple #[.slice A (localS ts l).1.length c, .int .i64 (localS ts l).2]) ∧ Own Cl.enc 7 43 w' w.heap.size (.slice A (localS ts l).1.length c) (localS ts l).1 ∧ Below w.heap.size w w' := by
  have h1 := fun w h1 h2 => callsOf_any A0 B0 c0 d0 ts l w hts hl h1 h2
  have h200 := callsR_len ts l
  have hin := callsR_inv (ts := ts) (l := l)
  unfold localS
  generalize callsR ts l = R at *
  obtain ⟨cs, at_, er⟩ := R
  dsimp only at h1 h200 hin ⊢
  refine calls_T (S := []) [] Try.func12 rfl Try.ntmps12 (by simp) (Mem.nil _) ?_
  repeat' (first | (refine GO ?_) | (refine GOE ?_; (first | (rintro _ _ ⟨rfl, rfl⟩) | (rintro _ _ ⟨g, rfl, rfl⟩) | (rintro _ _ ⟨A', c', rfl, rfl⟩))) | ((refine GO2 ?_ ?_) <;> intro h <;> (try (repeat (first | with_reducible (replace h := of_decide_eq_true h) | with_reducible (replace h := of_decide_eq_false h) | with_reducible (replace h := bnt h) | with_reducible (replace h := bnf h) | with_reducible (replace h := Int.not_lt.mp h) | with_reducible (replace h := Int.not_le.mp h) | with_reducible (replace h := band_dec h) | with_reducible (replace h := band_decF h) | with_reducible (replace h := bor_dec h) | with_reducible (replace h := bor_decF h)))) <;> (try (exfalso; first | contradiction | omega))) | ((with_reducible (first | apply TD_e2z | apply TD_e3z | apply TL_e | apply TD_e2 | apply TD_e3)); ((with_reducible apply ES_callOwn (f := 19)); exact rfl; (intro w hw; exact h1 w (hw.rd rfl hT) (hw.rd rfl hA)); exact rfl); (first | exact rfl | exact ⟨rfl, rfl, rfl⟩); (rintro _ _ ⟨A1, c1, rfl, rfl⟩); (try refine ⟨SUB, ?_⟩)) | fail)
  · (refine At_ret Try.results12 rfl (fun w' hw => ?_))
    rw [if_pos (by assumption)]
    exact ⟨none, 0, rfl, Own.nil _ _, hw.below0 rfl⟩
  have he0 : er = 0 := by assumption
  subst he0
  have ht1 : 1 ≤ ts.length := by
    have := (hin rfl).1
    unfold typesOk at this
    rw [Bool.and_eq_true, decide_eq_true_eq] at this
    exact this.1.1
  rw [if_neg (by simp)]
  clear hin
  refine T_loop (X := Nat) (fun k => [(25, .int .i64 (k : Nat)), (24, .int .i64 ts.length), (6, .slice A1 cs.length c1)]) (fun _ => [entOwn Cl.enc 7 43 A1 c1 cs])
    (fun k => k ≤ ts.length ∧ (∀ t, t < k → (atL cs (t : Int) cs.length).length ≤ 9) ∧ (0 < k → cs.length ≤ 12)) (fun k => ts.length - k) 0 ⟨by omega, fun t h => by omega, fun h => by omega⟩ (by (repeat (first | exact SubE.nil _ | refine SubE.cons rfl ?_))) (by exact SUBS) ?_
  rintro k ⟨hk, hno, h12⟩
  by_cases hkl : k < ts.length
  · repeat' (first | (refine GO ?_) | (refine GOE ?_; (first | (rintro _ _ ⟨rfl, rfl⟩) | (rintro _ _ ⟨g, rfl, rfl⟩) | (rintro _ _ ⟨A', c', rfl, rfl⟩))) | ((refine GO2 ?_ ?_) <;> intro h <;> (try (repeat (first | with_reducible (replace h := of_decide_eq_true h) | with_reducible (replace h := of_decide_eq_false h) | with_reducible (replace h := bnt h) | with_reducible (replace h := bnf h) | with_reducible (replace h := Int.not_lt.mp h) | with_reducible (replace h := Int.not_le.mp h) | with_reducible (replace h := band_dec h) | with_reducible (replace h := band_decF h) | with_reducible (replace h := bor_dec h) | with_reducible (replace h := bor_decF h)))) <;> (try (exfalso; first | contradiction | omega))) | fail)
    refine T_loop (X := Nat) (fun q => [(30, .int .i64 (q : Nat)), (29, .int .i64 cs.length), (28, .slice A1 cs.length c1), (10, .int .i64 (atL cs (k : Int) q).length), (9, .int .i64 (k : Nat)), (25, .int .i64 (k : Nat)), (24, .int .i64 ts.length), (6, .slice A1 cs.length c1)]) (fun _ => [entOwn Cl.enc 7 43 A1 c1 cs])
      (fun q => q ≤ cs.length) (fun q => cs.length - q) 0 (by omega) (by (repeat (first | exact SubE.nil _ | refine SubE.cons rfl ?_))) (by exact SUBS) ?_
    intro q hq
    have hal := atL_len cs (k : Int) q
    by_cases hql : q < cs.length
    · have hs := atL_succ cs (k : Int) hql
      refine T_own (enc := Cl.enc) (ls := cs) (by first | ((repeat (first | with_reducible exact List.mem_cons_self | with_reducible apply List.mem_cons_of_mem)); done) | (repeat (first | exact List.Mem.head _ | apply List.Mem.tail))) (by omega) ?_
      rintro gA rfl
      generalize atL cs (k : Int) q = L at *
      repeat' (first | (refine GO ?_) | (refine GOE ?_; (first | (rintro _ _ ⟨rfl, rfl⟩) | (rintro _ _ ⟨g, rfl, rfl⟩) | (rintro _ _ ⟨A', c', rfl, rfl⟩))) | ((refine GO2 ?_ ?_) <;> intro h <;> (try (repeat (first | with_reducible (replace h := of_decide_eq_true h) | with_reducible (replace h := of_decide_eq_false h) | with_reducible (replace h := bnt h) | with_reducible (replace h := bnf h) | with_reducible (replace h := Int.not_lt.mp h) | with_reducible (replace h := Int.not_le.mp h) | with_reducible (replace h := band_dec h) | with_reducible (replace h := band_decF h) | with_reducible (replace h := bor_dec h) | with_reducible (replace h := bor_decF h)))) <;> (try (exfalso; first | contradiction | omega))) | fail)
      · refine At_rounds (q + 1) hql (by omega) ?_ (by exact SUBS)
        rw [hs, if_pos (by assumption), List.length_append, List.length_singleton]
        (repeat (first | exact SubE.nil _ | refine SubE.cons rfl ?_))
      · refine At_rounds (q + 1) hql (by omega) ?_ (by exact SUBS)
        rw [hs, if_neg (by assumption)]
        (repeat (first | exact SubE.nil _ | refine SubE.cons rfl ?_))
    · obtain rfl : q = cs.length := by omega
      have hbig := fun h => bigT_at (ts := ts) (cs := cs) hkl h
      obtain ⟨N, hN⟩ : ∃ N, (atL cs (k : Int) cs.length).length = N := ⟨_, rfl⟩
      rw [hN] at hbig hal ⊢
      repeat' (first | (refine GO ?_) | (refine GOE ?_; (first | (rintro _ _ ⟨rfl, rfl⟩) | (rintro _ _ ⟨g, rfl, rfl⟩) | (rintro _ _ ⟨A', c', rfl, rfl⟩))) | ((refine GO2 ?_ ?_) <;> intro h <;> (try (repeat (first | with_reducible (replace h := of_decide_eq_true h) | with_reducible (replace h := of_decide_eq_false h) | with_reducible (replace h := bnt h) | with_reducible (replace h := bnf h) | with_reducible (replace h := Int.not_lt.mp h) | with_reducible (replace h := Int.not_le.mp h) | with_reducible (replace h := band_dec h) | with_reducible (replace h := band_decF h) | with_reducible (replace h := bor_dec h) | with_reducible (replace h := bor_decF h)))) <;> (try (exfalso; first | contradiction | omega))) | fail)
      all_goals first
        | ((refine At_ret Try.results12 rfl (fun w' hw => ?_))
           rw [if_pos (hbig (by omega))]
           exact ⟨none, 0, rfl, Own.nil _ _, hw.below0 rfl⟩)
        | (refine At_rounds (k + 1) ⟨by omega, fun t ht => ?_, fun _ => by omega⟩ (by omega) (by (repeat (first | exact SubE.nil _ | refine SubE.cons rfl ?_))) (by exact SUBS)
           by_cases e : t = k
           · subst e; omega
           · exact hno t (by omega))
  · obtain rfl : k = ts.length := by omega
    rw [bigT_no (h12 (by omega)) hno, if_neg (by simp)]
    repeat' (first | (refine GO ?_) | (refine GOE ?_; (first | (rintro _ _ ⟨rfl, rfl⟩) | (rintro _ _ ⟨g, rfl, rfl⟩) | (rintro _ _ ⟨A', c', rfl, rfl⟩))) | ((refine GO2 ?_ ?_) <;> intro h <;> (try (repeat (first | with_reducible (replace h := of_decide_eq_true h) | with_reducible (replace h := of_decide_eq_false h) | with_reducible (replace h := bnt h) | with_reducible (replace h := bnf h) | with_reducible (replace h := Int.not_lt.mp h) | with_reducible (replace h := Int.not_le.mp h) | with_reducible (replace h := band_dec h) | with_reducible (replace h := band_decF h) | with_reducible (replace h := bor_dec h) | with_reducible (replace h := bor_decF h)))) <;> (try (exfalso; first | contradiction | omega))) | fail)
    (refine At_ret Try.results12 rfl (fun w' hw => ?_))
    exact ⟨A1, c1, rfl, hw.ownOut rfl (by first | ((repeat (first | with_reducible exact List.mem_cons_self | with_reducible apply List.mem_cons_of_mem)); done) | (repeat (first | exact List.Mem.head _ | apply List.Mem.tail))), hw.below0 rfl⟩
end
/-! what is found of one thing's part -/
theorem local_ok {ts : List Int} {l : List Ev} (h : (localS ts l).2 = 0) : (callsR ts l).2.2 = 0 ∧ (localS ts l).1 = (callsR ts l).1 ∧ (callsR ts l).1.length ≤ 12 ∧ ∀ t, t < ts.length → (atL (callsR ts l).1 (t : Int) (callsR ts l).1.length).length ≤ 9 := by
  unfold localS at h ⊢
  by_cases h0 : (callsR ts l).2.2 = 0
  · rw [if_neg (by simp [h0])] at h ⊢
    by_cases hb : bigT ts (callsR ts l).1 = true
    · rw [if_pos hb] at h; cases h
    · rw [if_neg hb]
      unfold bigT at hb
      rw [Bool.not_eq_true, Bool.or_eq_false_iff, List.any_eq_false] at hb
      refine ⟨h0, rfl, by have := of_decide_eq_false hb.1; omega, fun t ht => ?_⟩
      have := hb.2 t (List.mem_range.2 ht)
      rw [decide_eq_true_eq] at this
      omega
  · rw [if_pos h0] at h; exact absurd h h0
end Go.Proofs.Ytbhjljnbjomnhaa

namespace Go.Proofs.Ytbhjljnbjomnhaa
open Go.RowKit

structure Stp where
  call : Int
  res : Int
  deriving Inhabited, DecidableEq
def Stp.enc (s : Stp) : List Value := [.int .i64 s.call, .int .i64 s.res]
abbrev RdStp (w : World) (A : Option Addr) (l : List Stp) : Prop := RdE Stp.enc 2 w A l
end Go.Proofs.Ytbhjljnbjomnhaa

namespace Go.Proofs.Ytbhjljnbjomnhaa
open Go.RowKit
attribute [local go_sem ↓] run_eql_rel run_eqGuard_rel exec_load_rel exec_store_rel
attribute [local go_sem] relCells_size relCells_ones relCells_get0 relCells_getS


theorem tb_rem (x j : Nat) : (((x : Int) / 2 ^ j).tmod 2 == 1) = x.testBit j := by
  have e : ((x : Int) / 2 ^ j) = ((x / 2 ^ j : Nat) : Int) := by simp
  rw [e, Int.tmod_eq_emod_of_nonneg (Int.natCast_nonneg _), Nat.testBit_eq_decide_div_mod_eq]
  generalize x / 2 ^ j = y
  by_cases h : y % 2 = 1
  · have : ((y : Int) % 2 == 1) = true := by simp; omega
    simp [h, this]
  · have : ((y : Int) % 2 == 1) = false := by simp; omega
    simp [h, this]
set_option maxHeartbeats 1000000 in
theorem ahead_any (n : Int) (f : Nat → Nat) (i j : Nat) (w : World) (hi : i < 12) (hj : j < 16) :
    Calls Try.prog 57 #[.agg (relCells n f), .int .i64 i, .int .i64 j] w fun e w' => e = .returned (.bool ((f i).testBit j)) ∧ Below w.heap.size w w' := by
  have hi' : (i : Int) < 12 := by omega
  have a1 := relCells_at n f i hi
  go_enter Try.func57, Try.ntmps57
  go_wp2_with (fail)
  go_ret
  exact ⟨ret_bool (tb_rem _ _), by (repeat (first | assumption | exact Below.refl _ _ | refine bel_alloc ?_ _ | refine Below.drew ?_ | refine below_drewN' ?_ _ | (refine bel_set ?_ (by first | (simp; done) | (simp; omega)) _) | (refine bel_row ?_ (by first | (simp; done) | (simp; omega)) _)))⟩
end Go.Proofs.Ytbhjljnbjomnhaa

namespace Go.Proofs.Ytbhjljnbjomnhaa
open Go.RowKit
attribute [local go_sem ↓] run_eql_rel run_eqGuard_rel exec_load_rel exec_store_rel
attribute [local go_sem] relCells_size relCells_ones relCells_get0 relCells_getS


theorem tb_and (x j : Nat) (hx : x < 65536) : (bits BinOp.and IntKind.u16 ((x : Int) / 2 ^ j) 1 == 1) = x.testBit j := by
  have e : ((x : Int) / 2 ^ j) = ((x / 2 ^ j : Nat) : Int) := by simp
  have hy : x / 2 ^ j < 65536 := Nat.lt_of_le_of_lt (Nat.div_le_self _ _) hx
  rw [e, Nat.testBit_eq_decide_div_mod_eq]
  generalize x / 2 ^ j = y at *
  have := u16_and_nat y 1 hy (by omega)
  rw [Nat.and_one_is_mod] at this
  rw [show (1 : Int) = ((1 : Nat) : Int) from rfl, this]
  by_cases h : y % 2 = 1
  · simp [h]
  · have : (((y % 2 : Nat) : Int) == ((1 : Nat) : Int)) = false := by rw [beq_eq_false_iff_ne]; omega
    rw [this]; simp [h]
theorem tb_and0 (x j : Nat) (hx : x < 65536) : (bits BinOp.and IntKind.u16 ((x : Int) / 2 ^ j) 1 == 0) = !x.testBit j := by
  have e : ((x : Int) / 2 ^ j) = ((x / 2 ^ j : Nat) : Int) := by simp
  have hy : x / 2 ^ j < 65536 := Nat.lt_of_le_of_lt (Nat.div_le_self _ _) hx
  rw [e, Nat.testBit_eq_decide_div_mod_eq]
  generalize x / 2 ^ j = y at *
  have := u16_and_nat y 1 hy (by omega)
  rw [Nat.and_one_is_mod] at this
  rw [show (1 : Int) = ((1 : Nat) : Int) from rfl, this]
  by_cases h : y % 2 = 1
  · simp [h]
  · have : (((y % 2 : Nat) : Int) == 0) = true := by rw [beq_iff_eq]; omega
    rw [this]; simp [h]

set_option maxHeartbeats 1000000 in
theorem has_any (n : Int) (f : Nat → Nat) (i j : Nat) (w : World) (hi : i < 12) (hj : j < 16) (hf : f i < 65536) :
    Calls Try.prog 150 #[.agg (relCells n f), .int .i64 i, .int .i64 j] w fun e w' => e = .returned (.bool ((f i).testBit j)) ∧ Below w.heap.size w w' := by
  have hi' : (i : Int) < 12 := by omega
  have a1 := relCells_at n f i hi
  go_enter Try.func150, Try.ntmps150
  go_wp2_with (fail)
  go_ret
  exact ⟨ret_bool (tb_and _ _ hf), by (repeat (first | assumption | exact Below.refl _ _ | refine bel_alloc ?_ _ | refine Below.drew ?_ | refine below_drewN' ?_ _ | (refine bel_set ?_ (by first | (simp; done) | (simp; omega)) _) | (refine bel_row ?_ (by first | (simp; done) | (simp; omega)) _)))⟩

/-- those that stand ahead of one -/
def befF (f : Nat → Nat) (j n : Nat) : Nat := bitsTo (fun i => (f i).testBit j) n

set_option maxRecDepth 20000 in
set_option maxHeartbeats 1000000 in
theorem before_any (n : Nat) (f : Nat → Nat) (j : Nat) (w : World) (hn : n ≤ 12) (hj : j < 16) (hf : ∀ i, i < 12 → f i < 65536) :
    Calls Try.prog 110 #[.agg (relCells n f), .int .i64 j] w fun e w' => e = .returned (.int .u16 (befF f j n)) ∧ Below w.heap.size w w' := by
  have Hf := Lib.hid hf
  clear hf
  go_enter Try.func110, Try.ntmps110
  go_wp2_with (fail)
  go_loopw [5, 9] (fun o i wr => ∃ k : Nat, k ≤ n ∧ i = .int .i64 k ∧ o = .int .u16 (befF f j k) ∧ Below w.heap.size w wr ∧ Blk wr w.heap.size 36 (relCells n f)) (fun _ i _ => n - (intOf i).toNat)
  case atStart => exact ⟨0, by omega, rfl, rfl, by (repeat (first | assumption | exact Below.refl _ _ | refine bel_alloc ?_ _ | refine Below.drew ?_ | refine below_drewN' ?_ _ | (refine bel_set ?_ (by first | (simp; done) | (simp; omega)) _) | (refine bel_row ?_ (by first | (simp; done) | (simp; omega)) _))), Blk.new _ _ _⟩
  case round =>
    obtain ⟨k, hk, rfl, rfl, hbel, hblk⟩ := hrel
    have hrow := hblk.rowOf
    by_cases hlt : k < n
    · have hs : befF f j (k + 1) = befF f j k + if (f k).testBit j then 2 ^ k else 0 := rfl
      have Hs := Lib.hid hs; clear hs
      by_cases hb : (f k).testBit j = true
      · have Hb := Lib.hid hb; clear hb
        go_wp2_with (go_at_call 150; refine (has_any _ f k j _ (by omega) (by omega) (Hf.out k (by omega))).mono ?_; rintro e w1 ⟨rfl, hb1⟩; rw [Hb.out])
        go_roundw
        case rel => exact ⟨k + 1, by omega, by go_num, congrArg (Value.int .u16) (or_bit _ (by omega) Hb.out), by exact bel_trans hbel hb1, hblk.carry hb1⟩
        case measure => simp [intOf]; omega
      · have Hb := Lib.hid (Bool.eq_false_iff.2 hb); clear hb
        go_wp2_with (go_at_call 150; refine (has_any _ f k j _ (by omega) (by omega) (Hf.out k (by omega))).mono ?_; rintro e w1 ⟨rfl, hb1⟩; rw [Hb.out])
        go_roundw
        case rel => exact ⟨k + 1, by omega, by go_num, by rw [Hs.out, Hb.out]; rfl, bel_trans hbel hb1, hblk.carry hb1⟩
        case measure => simp [intOf]; omega
    · obtain rfl : k = n := by omega
      go_wp2_with (fail)
      go_ret
      exact ⟨rfl, hbel⟩
end Go.Proofs.Ytbhjljnbjomnhaa

namespace Go.Proofs.Ytbhjljnbjomnhaa
open Go.RowKit
attribute [local go_sem ↓] run_eql_rel run_eqGuard_rel exec_load_rel exec_store_rel
attribute [local go_sem] relCells_size relCells_ones relCells_get0 relCells_getS

def relBad (n : Nat) (f : Nat → Nat) (i : Nat) : Bool := (decide (n ≤ i) && f i != 0) || f i / 2 ^ n != 0
def chkR (n : Int) (f : Nat → Nat) : Int := if n < 0 ∨ 12 < n then 1 else if (List.range 12).any (relBad n.toNat f) then 3 else 0
theorem chkR_arg {n : Int} {f : Nat → Nat} (h : n < 0 ∨ 12 < n) : chkR n f = 1 := by simp [chkR, h]
theorem chkR_in (n : Nat) (f : Nat → Nat) (h : n ≤ 12) : chkR n f = if (List.range 12).any (relBad n f) then 3 else 0 := by
  have : ¬ ((n : Int) < 0 ∨ 12 < (n : Int)) := by omega
  simp [chkR, this]
theorem chkR_bad {n : Nat} {f : Nat → Nat} (h : n ≤ 12) {k : Nat} (hk : k < 12) (hb : relBad n f k = true) : chkR n f = 3 := by
  rw [chkR_in n f h, if_pos (List.any_eq_true.2 ⟨k, by simpa using hk, hb⟩)]
theorem chkR_ok {n : Nat} {f : Nat → Nat} (h : n ≤ 12) (hb : ∀ k, k < 12 → relBad n f k = false) : chkR n f = 0 := by
  rw [chkR_in n f h, if_neg]
  intro e
  obtain ⟨k, hk, h2⟩ := List.any_eq_true.1 e
  rw [hb k (by simpa using hk)] at h2
  cases h2
theorem chkR_fine {n : Int} {f : Nat → Nat} (h : chkR n f = 0) : ∃ m : Nat, n = m ∧ m ≤ 12 ∧ ∀ k, k < 12 → (m ≤ k → f k = 0) ∧ f k < 2 ^ m := by
  by_cases h1 : n < 0 ∨ 12 < n
  · rw [chkR_arg h1] at h; cases h
  · refine ⟨n.toNat, by omega, by omega, fun k hk => ?_⟩
    have e : n = (n.toNat : Int) := by omega
    rw [e, chkR_in _ _ (by omega)] at h
    split at h
    · cases h
    · rename_i h2
      have hb : relBad n.toNat f k = false := by
        rw [Bool.eq_false_iff]
        intro e2
        exact h2 (List.any_eq_true.2 ⟨k, by simpa using hk, e2⟩)
      simp only [relBad, Bool.or_eq_false_iff, Bool.and_eq_false_iff, decide_eq_false_iff_not, bne_eq_false_iff_eq] at hb
      refine ⟨fun hm => by omega, ?_⟩
      have := hb.2
      rw [Nat.div_eq_zero_iff] at this
      have hp : 0 < 2 ^ n.toNat := Nat.two_pow_pos _
      omega

theorem div_cast_ne (x m : Nat) : (((x : Int) / 2 ^ m != 0) = true) ↔ x / 2 ^ m ≠ 0 := by
  have e : ((x : Int) / 2 ^ m) = ((x / 2 ^ m : Nat) : Int) := by simp
  rw [e, bne_iff_ne]
  omega
theorem relBad_t1 {m k : Nat} {f : Nat → Nat} (h1 : m ≤ k) (h2 : ¬ f k = 0) : relBad m f k = true := by simp [relBad, h1, h2]
theorem relBad_t2 {m k : Nat} {f : Nat → Nat} (h : ((f k : Int) / 2 ^ m != 0) = true) : relBad m f k = true := by
  have := (div_cast_ne _ _).1 h
  unfold relBad
  rw [Bool.or_eq_true, bne_iff_ne]
  exact .inr this
theorem relBad_f1 {m k : Nat} {f : Nat → Nat} (_h1 : m ≤ k) (h2 : f k = 0) : relBad m f k = false := by simp [relBad, h2]
theorem relBad_f2 {m k : Nat} {f : Nat → Nat} (h1 : ¬ m ≤ k) (h : ((f k : Int) / 2 ^ m != 0) = false) : relBad m f k = false := by
  have h3 : f k / 2 ^ m = 0 := by
    refine Decidable.byContradiction fun hn => ?_
    rw [(div_cast_ne _ _).2 hn] at h
    cases h
  have : decide (m ≤ k) = false := by simpa using h1
  unfold relBad
  rw [this, h3]
  rfl
theorem relBad_next {m k : Nat} {f : Nat → Nat} (h : Hid (∀ j, j < k → relBad m f j = false)) (hk : relBad m f k = false) : Hid (∀ j, j < k + 1 → relBad m f j = false) :=
  Lib.hid fun j hj => by
    by_cases e : j = k
    · subst e; exact hk
    · exact h.out j (by omega)
/-- as the reference asks it, bit by bit -/
def rb (m : Nat) (f : Nat → Nat) (k q : Nat) : Bool := (f k).testBit q && (decide (m ≤ k) || decide (m ≤ q))
theorem rb_next {m k q : Nat} {f : Nat → Nat} (h : Hid (∀ j, j < q → rb m f k j = false)) (hk : rb m f k q = false) : Hid (∀ j, j < q + 1 → rb m f k j = false) :=
  Lib.hid fun j hj => by
    by_cases e : j = q
    · subst e; exact hk
    · exact h.out j (by omega)
theorem rb_bad {m k q : Nat} {f : Nat → Nat} (h : rb m f k q = true) : relBad m f k = true := by
  simp only [rb, Bool.and_eq_true, Bool.or_eq_true, decide_eq_true_eq] at h
  obtain ⟨h1, h2⟩ := h
  have hne : f k ≠ 0 := by
    intro e
    rw [e] at h1
    simp at h1
  rcases h2 with h2 | h2
  · exact relBad_t1 h2 hne
  · unfold relBad
    rw [Bool.or_eq_true, bne_iff_ne]
    right
    intro e
    rw [Nat.div_eq_zero_iff] at e
    have hp : 0 < 2 ^ m := Nat.two_pow_pos _
    have hlt : f k < 2 ^ q := Nat.lt_of_lt_of_le (by omega) (Nat.pow_le_pow_right (n := 2) (by omega) h2)
    rw [Nat.testBit_lt_two_pow hlt] at h1
    cases h1
theorem rb_good {m k : Nat} {f : Nat → Nat} (hf : f k < 65536) (h : ∀ q, q < 16 → rb m f k q = false) : relBad m f k = false := by
  have h16 : (2 : Nat) ^ 16 = 65536 := by decide
  refine Decidable.byContradiction fun hn => ?_
  have hb : relBad m f k = true := by cases h3 : relBad m f k <;> simp_all
  simp only [relBad, Bool.or_eq_true, Bool.and_eq_true, decide_eq_true_eq, bne_iff_ne] at hb
  have key : ∃ q, q < 16 ∧ (f k).testBit q = true ∧ (m ≤ k ∨ m ≤ q) := by
    rcases hb with ⟨h1, h2⟩ | h2
    · obtain ⟨q, _, hq⟩ := Nat.exists_ge_and_testBit_of_ge_two_pow (n := 0) (x := f k) (by simp; omega)
      refine ⟨q, ?_, hq, .inl h1⟩
      refine Nat.lt_of_not_le fun h5 => ?_
      rw [Nat.testBit_lt_two_pow (Nat.lt_of_lt_of_le (by omega) (Nat.pow_le_pow_right (n := 2) (by omega) h5))] at hq
      cases hq
    · have hp : 0 < 2 ^ m := Nat.two_pow_pos _
      rw [Ne, Nat.div_eq_zero_iff] at h2
      obtain ⟨q, hq1, hq⟩ := Nat.exists_ge_and_testBit_of_ge_two_pow (n := m) (x := f k) (by omega)
      refine ⟨q, ?_, hq, .inr hq1⟩
      refine Nat.lt_of_not_le fun h5 => ?_
      rw [Nat.testBit_lt_two_pow (Nat.lt_of_lt_of_le (by omega) (Nat.pow_le_pow_right (n := 2) (by omega) h5))] at hq
      cases hq
  obtain ⟨q, hq, h1, h2⟩ := key
  have := h q hq
  simp [rb, h1] at this
  omega

theorem run_index_after (f : Nat → Nat) (k : Nat) (hk : k < 12) (w : World) : (Instr.index 34 (.agg (u16s f 12).toArray) (.int .i64 k)).run Try.prog w = .ok (.int .u16 (f k)) w := by
  have h1 : (u16s f 12)[k]? = some (.int .u16 (f k)) := by simp [u16s, hk]
  have h2 : (0 : Int) ≤ (k : Int) ∧ (k : Int) < 12 := by omega
  simp only [Instr.index, asIntOf, Sem.run_bind, Sem.run_pure, Result.andThen_ok, run_underlying Try.underlying34]
  simp [h2, part, h1]

set_option maxRecDepth 20000 in
set_option maxHeartbeats 1000000 in
theorem relCheck_any (n : Int) (f : Nat → Nat) (w : World) (hf : ∀ i, i < 12 → f i < 65536) :
    Calls Try.prog 184 #[.agg (relCells n f)] w fun e w' => e = .returned (.int .i64 (chkR n f)) ∧ Below w.heap.size w w' := by
  by_cases hn : n < 0 ∨ 12 < n
  · have Hn := Lib.hid (chkR_arg (f := f) hn)
    rcases hn with hn | hn
    · have hd : decide (n < 0) = true := by simpa using hn
      clear hn
      go_enter Try.func184, Try.ntmps184
      go_wp2_with (fail)
      go_ret
      exact ⟨ret_int Hn.out.symm, by (repeat (first | assumption | exact Below.refl _ _ | refine bel_alloc ?_ _ | refine Below.drew ?_ | refine below_drewN' ?_ _ | (refine bel_set ?_ (by first | (simp; done) | (simp; omega)) _) | (refine bel_row ?_ (by first | (simp; done) | (simp; omega)) _)))⟩
    · have hd : decide (n < 0) = false := by simp; omega
      go_enter Try.func184, Try.ntmps184
      go_wp2_with (fail)
      go_ret
      exact ⟨ret_int Hn.out.symm, by (repeat (first | assumption | exact Below.refl _ _ | refine bel_alloc ?_ _ | refine Below.drew ?_ | refine below_drewN' ?_ _ | (refine bel_set ?_ (by first | (simp; done) | (simp; omega)) _) | (refine bel_row ?_ (by first | (simp; done) | (simp; omega)) _)))⟩
  · obtain ⟨m, rfl⟩ : ∃ m : Nat, n = m := ⟨n.toNat, by omega⟩
    have hm : m ≤ 12 := by omega
    have Hf := Lib.hid hf
    clear hf hn
    go_enter Try.func184, Try.ntmps184
    have hr : (w.alloc (.cells (relCells m f) 36)).rangeAt w.heap.size 1 (u16s f 12) := fun j v hv => by
      have hj : j < 12 := by
        have := (List.getElem?_eq_some_iff.1 hv).1
        simpa [u16s] using this
      rw [(Blk.new w 36 (relCells m f)).cell (1 + j), relCells_at _ _ _ hj]
      simpa [u16s, hj] using hv
    go_wp2_with (refine wpList_load_mid rfl 34 _ rfl w.heap.size 1 rfl (u16s f 12) _ hr Try.underlying34 rfl (by kernel_rfl) ?_)
    go_loopw [15] (fun i wr => ∃ k : Nat, k ≤ 12 ∧ i = .int .i64 k ∧ Hid (∀ j, j < k → relBad m f j = false) ∧ Below w.heap.size w wr ∧ Blk wr w.heap.size 36 (relCells m f)) (fun i _ => 12 - (intOf i).toNat)
    case atStart => exact ⟨0, by omega, rfl, Lib.hid (by omega), by (repeat (first | assumption | exact Below.refl _ _ | refine bel_alloc ?_ _ | refine Below.drew ?_ | refine below_drewN' ?_ _ | (refine bel_set ?_ (by first | (simp; done) | (simp; omega)) _) | (refine bel_row ?_ (by first | (simp; done) | (simp; omega)) _))), Blk.new _ _ _⟩
    case round =>
      obtain ⟨k, hk, rfl, hall, hbel, hblk⟩ := hrel
      clear hr
      have hrow := hblk.rowOf
      have c0 := (hblk.cell 0).trans (relCells_n _ _)
      by_cases hlt : k < 12
      · have hix := run_index_after f k hlt
        have Hb := Lib.hid (show relBad m f k = ((decide (m ≤ k) && f k != 0) || f k / 2 ^ m != 0) from rfl)
        go_wp2_with (fail)
        all_goals first
          | (go_ret; exact ⟨ret_int (chkR_bad hm hlt (by first | exact relBad_t1 (by assumption) (by assumption) | exact relBad_t2 (by assumption))).symm, by (repeat (first | assumption | exact Below.refl _ _ | refine bel_alloc ?_ _ | refine Below.drew ?_ | refine below_drewN' ?_ _ | (refine bel_set ?_ (by first | (simp; done) | (simp; omega)) _) | (refine bel_row ?_ (by first | (simp; done) | (simp; omega)) _)))⟩)
          | (go_roundw
             case rel => exact ⟨k + 1, by omega, by go_num, relBad_next hall (by first | exact relBad_f1 (by assumption) (by assumption) | exact relBad_f2 (by assumption) (by assumption)), by (repeat (first | assumption | exact Below.refl _ _ | refine bel_alloc ?_ _ | refine Below.drew ?_ | refine below_drewN' ?_ _ | (refine bel_set ?_ (by first | (simp; done) | (simp; omega)) _) | (refine bel_row ?_ (by first | (simp; done) | (simp; omega)) _))), hblk⟩
             case measure => simp [intOf]; omega)
      · obtain rfl : k = 12 := by omega
        go_wp2_with (fail)
        go_ret
        exact ⟨ret_int (chkR_ok hm hall.out).symm, hbel⟩

/-- Warshall's step, round, whole -/
def wStep (k : Nat) (f : Nat → Nat) (i : Nat) : Nat → Nat := if (f i).testBit k then upd f i (f i ||| f k) else f
def wIn (f : Nat → Nat) (k : Nat) : Nat → (Nat → Nat)
  | 0 => f
  | m + 1 => wStep k (wIn f k m) m
def wOut (f : Nat → Nat) (n : Nat) : Nat → (Nat → Nat)
  | 0 => f
  | k + 1 => wIn (wOut f n k) k n
def closedF (n : Nat) (f : Nat → Nat) : Nat → Nat := wOut f n n
theorem wStep_lt {f : Nat → Nat} {B : Nat} (h : ∀ i, i < 12 → f i < 2 ^ B) (k i : Nat) (hk : k < 12) (hi : i < 12) : ∀ j, j < 12 → wStep k f i j < 2 ^ B := by
  intro j hj
  unfold wStep
  split
  · unfold upd
    split
    · exact Nat.or_lt_two_pow (h i hi) (h k hk)
    · exact h j hj
  · exact h j hj
theorem wIn_lt {f : Nat → Nat} {B : Nat} (h : ∀ i, i < 12 → f i < 2 ^ B) (k : Nat) (hk : k < 12) : ∀ m, m ≤ 12 → ∀ j, j < 12 → wIn f k m j < 2 ^ B
  | 0, _ => h
  | m + 1, hm => wStep_lt (wIn_lt h k hk m (by omega)) k m hk (by omega)
theorem wOut_lt {f : Nat → Nat} {B : Nat} (h : ∀ i, i < 12 → f i < 2 ^ B) (n : Nat) (hn : n ≤ 12) : ∀ k, k ≤ 12 → ∀ j, j < 12 → wOut f n k j < 2 ^ B
  | 0, _ => h
  | k + 1, hk => wIn_lt (wOut_lt h n hn k (by omega)) k (by omega) n hn

set_option maxRecDepth 20000 in
set_option maxHeartbeats 2000000 in
theorem closed_any (n : Nat) (f : Nat → Nat) (w : World) (hn : n ≤ 12) (hf : ∀ i, i < 12 → f i < 65536) :
    Calls Try.prog 185 #[.agg (relCells n f)] w fun e w' => e = .returned (.agg (relCells n (closedF n f))) ∧ Below w.heap.size w w' := by
  have Hf : Hid (∀ k, k ≤ 12 → ∀ j, j < 12 → wOut f n k j < 65536) := Lib.hid (wOut_lt (B := 16) hf n hn)
  clear hf
  go_enter Try.func185, Try.ntmps185
  go_wp2_with (fail)
  go_loopw [7] (fun i wr => ∃ k : Nat, k ≤ n ∧ i = .int .i64 k ∧ Below w.heap.size w wr ∧ Blk wr w.heap.size 36 (relCells n (wOut f n k)) ∧ Blk wr (w.heap.size + 1) 36 (relCells 0 (fun _ => 0))) (fun i _ => n - (intOf i).toNat)
  case atStart => exact ⟨0, by omega, rfl, by (repeat (first | assumption | exact Below.refl _ _ | refine bel_alloc ?_ _ | refine Below.drew ?_ | refine below_drewN' ?_ _ | (refine bel_set ?_ (by first | (simp; done) | (simp; omega)) _) | (refine bel_row ?_ (by first | (simp; done) | (simp; omega)) _))), (Blk.new _ _ _).alloc _, by rw [relCells_zero]; exact Blk.new' _ _ _ _ (by simp)⟩
  case round =>
    obtain ⟨k, hk, rfl, hbel, hblk, hres⟩ := hrel
    have c0 := (hblk.cell 0).trans (relCells_n _ _)
    by_cases hlt : k < n
    · have hb16 := Lib.hid (wIn_lt (B := 16) (Hf.out k (by omega)) k (by omega))
      have hnext := Lib.hid (show wOut f n (k + 1) = wIn (wOut f n k) k n from rfl)
      have hfirst := Lib.hid (show wIn (wOut f n k) k 0 = wOut f n k from rfl)
      have hblk0 : Blk wr w.heap.size 36 (relCells n (wIn (wOut f n k) k 0)) := hblk
      clear hblk
      generalize wOut f n k = g at *
      go_wp2_with (fail)
      go_loopw [12] (fun i wr => ∃ m : Nat, m ≤ n ∧ i = .int .i64 m ∧ Below w.heap.size w wr ∧ Blk wr w.heap.size 36 (relCells n (wIn g k m)) ∧ Blk wr (w.heap.size + 1) 36 (relCells 0 (fun _ => 0))) (fun i _ => n - (intOf i).toNat)
      case atStart => exact ⟨0, by omega, rfl, by (repeat (first | assumption | exact Below.refl _ _ | refine bel_alloc ?_ _ | refine Below.drew ?_ | refine below_drewN' ?_ _ | (refine bel_set ?_ (by first | (simp; done) | (simp; omega)) _) | (refine bel_row ?_ (by first | (simp; done) | (simp; omega)) _))), hblk0, hres⟩
      case round =>
        obtain ⟨m, hm, rfl, hbel2, hblk2, hres2⟩ := hrel
        have d0 := (hblk2.cell 0).trans (relCells_n _ _)
        by_cases hlt2 : m < n
        · have hs := Lib.hid (show wIn g k (m + 1) = wStep k (wIn g k m) m from rfl)
          have hb1 := hb16.out m (by omega) m (by omega)
          have hb2 := hb16.out m (by omega) k (by omega)
          have e16 : (2 : Nat) ^ 16 = 65536 := by decide
          rw [e16] at hb1 hb2
          clear e16 c0
          generalize wIn g k m = h at *
          have d1 := (hblk2.cell (1 + m)).trans (relCells_at _ _ m (by omega))
          have d2 := (hblk2.cell (1 + k)).trans (relCells_at _ _ k (by omega))
          have d3 := hblk2.frozen (1 + m)
          have d4 := hblk2.lt
          have hm12 : (m : Int) < 12 := by omega
          have hk12 : (k : Int) < 12 := by omega
          by_cases hbit : (h m).testBit k = true
          · have hw := Lib.hid (show wStep k h m = upd h m (h m ||| h k) by simp [wStep, hbit])
            have hb := (tb_and (h m) k hb1).trans hbit
            clear hbit
            have ho := u16_or_nat (h m) (h k) hb1 hb2
            go_wp2_with (fail)
            go_region
            go_wp2_with (fail)
            go_roundw
            case rel =>
              refine ⟨m + 1, by omega, by go_num, by (repeat (first | assumption | exact Below.refl _ _ | refine bel_alloc ?_ _ | refine Below.drew ?_ | refine below_drewN' ?_ _ | (refine bel_set ?_ (by first | (simp; done) | (simp; omega)) _) | (refine bel_row ?_ (by first | (simp; done) | (simp; omega)) _))), ?_, hres2.far (by simp) _⟩
              rw [hs.out, hw.out, ← relCells_set _ _ _ _ (by omega)]
              exact hblk2.set_ (1 + m) _
            case measure => simp [intOf]; omega
          · have hw := Lib.hid (show wStep k h m = h by simp [wStep, hbit])
            have hb := (tb_and (h m) k hb1).trans (Bool.eq_false_iff.2 hbit)
            clear hbit
            go_wp2_with (fail)
            go_roundw
            case rel => exact ⟨m + 1, by omega, by go_num, hbel2, by rw [hs.out, hw.out]; exact hblk2, hres2⟩
            case measure => simp [intOf]; omega
        · obtain rfl : m = n := by omega
          go_wp2_with (fail)
          go_roundw
          case rel => exact ⟨k + 1, by omega, by go_num, hbel2, by rw [hnext.out]; exact hblk2, hres2⟩
          case measure => simp [intOf]; omega
    · obtain rfl : k = n := by omega
      have r1 := hblk.rowOf
      have r2 := hres.rowOf
      go_wp2_with (fail)
      refine bodyPost_ret (results_cell_row rfl _ _ _ 36 _ (0, 0) _ rfl (hres.row _) Try.underlying36 rfl (rel_info _ _)) rfl ?_
      exact ⟨rfl, by (repeat (first | assumption | exact Below.refl _ _ | refine bel_alloc ?_ _ | refine Below.drew ?_ | refine below_drewN' ?_ _ | (refine bel_set ?_ (by first | (simp; done) | (simp; omega)) _) | (refine bel_row ?_ (by first | (simp; done) | (simp; omega)) _)))⟩

theorem results_cell_two {fn : Func} {p u v : Tmp} {ty : TypeId} (h : fn.results = #[.cell p ty, .tmp u, .tmp v]) (tmps : Array Value) (P : Program) (w : World) :
    (results fn tmps).run P w =
      ((asAddr (tmps.getD p undef)).run P w).andThen fun a w₁ => ((loadVar ty a).run P w₁).andThen fun x w₂ => .ok (.tuple #[x, tmps.getD u undef, tmps.getD v undef]) w₂ := by
  simp only [results, h]
  simp [Sem.run_bind, Result.andThen]

def isCyc (n : Nat) (c : Nat → Nat) : Bool := (List.range n).any fun i => (c i).testBit i
theorem isCyc_at {n : Nat} {c : Nat → Nat} {k : Nat} (hk : k < n) (h : (c k).testBit k = true) : isCyc n c = true := List.any_eq_true.2 ⟨k, by simpa using hk, h⟩
theorem isCyc_no {n : Nat} {c : Nat → Nat} (h : ∀ k, k < n → (c k).testBit k = false) : isCyc n c = false := by
  rw [isCyc, List.any_eq_false]
  intro k hk
  rw [h k (by simpa using hk)]
  simp

set_option maxRecDepth 20000 in
set_option maxHeartbeats 2000000 in
theorem close_bad (n : Int) (f : Nat → Nat) (w : World) (hf : ∀ i, i < 12 → f i < 65536) (h0 : ¬ chkR n f = 0) :
    Calls Try.prog 149 #[.agg (relCells n f)] w fun e w' => e = .returned (.tuple #[.agg (relCells 0 (fun _ => 0)), .bool false, .int .i64 (chkR n f)]) ∧ Below w.heap.size w w' := by
  have hne : (chkR n f != 0) = true := by simp [h0]
  have Hf := Lib.hid hf
  clear h0 hf
  go_enter Try.func149, Try.ntmps149
  go_wp2_with (go_at_call 184; refine (relCheck_any _ _ _ Hf.out).mono ?_; rintro e w1 ⟨rfl, hb1⟩; have hz := (Blk.new (w.alloc (.cells (relCells n f) 36)) 36 (relCells 0 (fun _ => 0))).carry hb1; have hB := bel_trans (bel_alloc (bel_alloc (Below.refl _ w) _) _) hb1; simp only [World.size_alloc] at hz; have hr := hz.rowOf)
  refine bodyPost_ret ((results_cell_two rfl _ _ _).trans (by simp [asAddr]; rw [← relCells_zero, run_loadVar_row _ _ 36 _ _ (0, 0) _ (hz.row _) Try.underlying36 rfl (rel_info 0 (fun _ => 0))]; rfl)) rfl ?_
  exact ⟨rfl, by (repeat (first | assumption | exact Below.refl _ _ | refine bel_alloc ?_ _ | refine Below.drew ?_ | refine below_drewN' ?_ _ | (refine bel_set ?_ (by first | (simp; done) | (simp; omega)) _) | (refine bel_row ?_ (by first | (simp; done) | (simp; omega)) _)))⟩
set_option maxRecDepth 20000 in
set_option maxHeartbeats 2000000 in
theorem close_ok (n : Nat) (f : Nat → Nat) (w : World) (hn : n ≤ 12) (hf : ∀ i, i < 12 → f i < 65536) (h0 : chkR n f = 0) :
    Calls Try.prog 149 #[.agg (relCells n f)] w fun e w' => e = .returned (.tuple #[.agg (relCells n (closedF n f)), .bool (isCyc n (closedF n f)), .int .i64 0]) ∧ Below w.heap.size w w' := by
  have hne : (chkR n f != 0) = false := by simp [h0]
  have Hf := Lib.hid hf
  have Hc : Hid (∀ j, j < 12 → closedF n f j < 65536) := Lib.hid (wOut_lt (B := 16) hf n hn n hn)
  clear h0 hf
  go_enter Try.func149, Try.ntmps149
  go_wp2_with (first
    | (go_at_call 184; refine (relCheck_any _ _ _ Hf.out).mono ?_; rintro e w1 ⟨rfl, hb1⟩; have hx := ((Blk.new w 36 (relCells n f)).alloc (Obj.cells (relCells 0 (fun _ => 0)) 36)).carry hb1; have hz := (Blk.new (w.alloc (.cells (relCells n f) 36)) 36 (relCells 0 (fun _ => 0))).carry hb1; have hB := bel_trans (bel_alloc (bel_alloc (Below.refl _ w) _) _) hb1; simp only [World.size_alloc] at hz; have hr := hx.rowOf)
    | (go_at_call 185; refine (closed_any n f _ hn Hf.out).mono ?_; rintro e w2 ⟨rfl, hb2⟩; have hz2 := hz.carry hb2; have hB2 := bel_trans hB hb2))
  generalize hcc : closedF n f = c at *
  have Hcc := Lib.hid hcc
  clear hcc
  go_loopw [18] (fun i wr => ∃ k : Nat, k ≤ n ∧ i = .int .i64 k ∧ Hid (∀ j, j < k → (c j).testBit j = false) ∧ Below w.heap.size w wr ∧ Blk wr w2.heap.size 36 (relCells n c) ∧ Blk wr (w.heap.size + 1) 36 (relCells 0 (fun _ => 0))) (fun i _ => n - (intOf i).toNat)
  case atStart => exact ⟨0, by omega, rfl, Lib.hid (by omega), by (repeat (first | assumption | exact Below.refl _ _ | refine bel_alloc ?_ _ | refine Below.drew ?_ | refine below_drewN' ?_ _ | (refine bel_set ?_ (by first | (simp; done) | (simp; omega)) _) | (refine bel_row ?_ (by first | (simp; done) | (simp; omega)) _))), Blk.new _ _ _, hz2.alloc _⟩
  case round =>
    obtain ⟨k, hk, rfl, hall, hbel, hblk, hres⟩ := hrel
    have c0 := (hblk.cell 0).trans (relCells_n _ _)
    have r1 := hblk.rowOf
    have r2 := hres.rowOf
    by_cases hlt : k < n
    · have d1 := (hblk.cell (1 + k)).trans (relCells_at _ _ k (by omega))
      have hk12 : (k : Int) < 12 := by omega
      by_cases hbit : (c k).testBit k = true
      · have hb := (tb_and (c k) k (Hc.out k (by omega))).trans hbit
        have Hy := Lib.hid (isCyc_at hlt hbit)
        clear hbit
        go_wp2_with (fail)
        refine bodyPost_ret ((results_cell_two rfl _ _ _).trans (by simp [asAddr]; rw [run_loadVar_row _ _ 36 _ _ (0, 0) _ (hres.row _) Try.underlying36 rfl (rel_info _ _)]; rfl)) rfl ?_
        exact ⟨by rw [Hcc.out, Hy.out], by (repeat (first | assumption | exact Below.refl _ _ | refine bel_alloc ?_ _ | refine Below.drew ?_ | refine below_drewN' ?_ _ | (refine bel_set ?_ (by first | (simp; done) | (simp; omega)) _) | (refine bel_row ?_ (by first | (simp; done) | (simp; omega)) _)))⟩
      · have hb := (tb_and (c k) k (Hc.out k (by omega))).trans (Bool.eq_false_iff.2 hbit)
        have Hn := Lib.hid (Bool.eq_false_iff.2 hbit)
        clear hbit
        go_wp2_with (fail)
        go_roundw
        case rel => exact ⟨k + 1, by omega, by go_num, Lib.hid fun j hj => by
          by_cases e : j = k
          · subst e; exact Hn.out
          · exact hall.out j (by omega), hbel, hblk, hres⟩
        case measure => simp [intOf]; omega
    · obtain rfl : k = n := by omega
      go_wp2_with (fail)
      refine bodyPost_ret ((results_cell_two rfl _ _ _).trans (by simp [asAddr]; rw [run_loadVar_row _ _ 36 _ _ (0, 0) _ (hres.row _) Try.underlying36 rfl (rel_info _ _)]; rfl)) rfl ?_
      exact ⟨by rw [Hcc.out, isCyc_no hall.out], by (repeat (first | assumption | exact Below.refl _ _ | refine bel_alloc ?_ _ | refine Below.drew ?_ | refine below_drewN' ?_ _ | (refine bel_set ?_ (by first | (simp; done) | (simp; omega)) _) | (refine bel_row ?_ (by first | (simp; done) | (simp; omega)) _)))⟩

set_option maxRecDepth 20000 in
set_option maxHeartbeats 2000000 in
theorem acyclic_bad (n : Int) (f : Nat → Nat) (w : World) (hf : ∀ i, i < 12 → f i < 65536) (h0 : ¬ chkR n f = 0) :
    Calls Try.prog 109 #[.agg (relCells n f)] w fun e w' => e = .returned (.tuple #[.agg (relCells 0 (fun _ => 0)), .int .i64 (chkR n f)]) ∧ Below w.heap.size w w' := by
  have hne : (chkR n f != 0) = true := by simp [h0]
  have H0 := Lib.hid h0
  have Hf := Lib.hid hf
  clear h0 hf
  go_enter Try.func109, Try.ntmps109
  go_wp2_with (go_at_call 149; refine (close_bad _ _ _ Hf.out H0.out).mono ?_; rintro e w1 ⟨rfl, hb1⟩; have hz := (Blk.new (w.alloc (.cells (relCells n f) 36)) 36 (relCells 0 (fun _ => 0))).carry hb1; have hB := bel_trans (bel_alloc (bel_alloc (Below.refl _ w) _) _) hb1; simp only [World.size_alloc] at hz; have hr := hz.rowOf; have hl := hz.lt)
  have hz2 := hz.alloc (Obj.cells (relCells 0 (fun _ => 0)) 36)
  refine bodyPost_ret ((results_cell_tmp rfl _ _ _).trans (by simp [asAddr]; rw [← relCells_zero, run_loadVar_row _ _ 36 _ _ (0, 0) _ (hz2.row _) Try.underlying36 rfl (rel_info 0 (fun _ => 0))]; rfl)) rfl ?_
  exact ⟨rfl, by (repeat (first | assumption | exact Below.refl _ _ | refine bel_alloc ?_ _ | refine Below.drew ?_ | refine below_drewN' ?_ _ | (refine bel_set ?_ (by first | (simp; done) | (simp; omega)) _) | (refine bel_row ?_ (by first | (simp; done) | (simp; omega)) _)))⟩
set_option maxRecDepth 20000 in
set_option maxHeartbeats 2000000 in
theorem acyclic_cyc (n : Nat) (f : Nat → Nat) (w : World) (hn : n ≤ 12) (hf : ∀ i, i < 12 → f i < 65536) (h0 : chkR n f = 0) (hc : isCyc n (closedF n f) = true) :
    Calls Try.prog 109 #[.agg (relCells n f)] w fun e w' => e = .returned (.tuple #[.agg (relCells 0 (fun _ => 0)), .int .i64 4]) ∧ Below w.heap.size w w' := by
  have Hc := Lib.hid hc
  have H0 := Lib.hid h0
  have Hf := Lib.hid hf
  clear h0 hf hc
  go_enter Try.func109, Try.ntmps109
  go_wp2_with (go_at_call 149; refine (close_ok n f _ hn Hf.out H0.out).mono ?_; rintro e w1 ⟨rfl, hb1⟩; rw [Hc.out]; have hz := (Blk.new (w.alloc (.cells (relCells n f) 36)) 36 (relCells 0 (fun _ => 0))).carry hb1; have hB := bel_trans (bel_alloc (bel_alloc (Below.refl _ w) _) _) hb1; simp only [World.size_alloc] at hz; have hr := hz.rowOf; have hl := hz.lt)
  have hz2 := hz.alloc (Obj.cells (relCells n (closedF n f)) 36)
  refine bodyPost_ret ((results_cell_tmp rfl _ _ _).trans (by simp [asAddr]; rw [← relCells_zero, run_loadVar_row _ _ 36 _ _ (0, 0) _ (hz2.row _) Try.underlying36 rfl (rel_info 0 (fun _ => 0))]; rfl)) rfl ?_
  exact ⟨rfl, by (repeat (first | assumption | exact Below.refl _ _ | refine bel_alloc ?_ _ | refine Below.drew ?_ | refine below_drewN' ?_ _ | (refine bel_set ?_ (by first | (simp; done) | (simp; omega)) _) | (refine bel_row ?_ (by first | (simp; done) | (simp; omega)) _)))⟩
set_option maxRecDepth 20000 in
set_option maxHeartbeats 2000000 in
theorem acyclic_ok (n : Nat) (f : Nat → Nat) (w : World) (hn : n ≤ 12) (hf : ∀ i, i < 12 → f i < 65536) (h0 : chkR n f = 0) (hc : isCyc n (closedF n f) = false) :
    Calls Try.prog 109 #[.agg (relCells n f)] w fun e w' => e = .returned (.tuple #[.agg (relCells n (closedF n f)), .int .i64 0]) ∧ Below w.heap.size w w' := by
  have Hc := Lib.hid hc
  have H0 := Lib.hid h0
  have Hf := Lib.hid hf
  clear h0 hf hc
  go_enter Try.func109, Try.ntmps109
  go_wp2_with (go_at_call 149; refine (close_ok n f _ hn Hf.out H0.out).mono ?_; rintro e w1 ⟨rfl, hb1⟩; rw [Hc.out]; have hz := (Blk.new (w.alloc (.cells (relCells n f) 36)) 36 (relCells 0 (fun _ => 0))).carry hb1; have hB := bel_trans (bel_alloc (bel_alloc (Below.refl _ w) _) _) hb1; simp only [World.size_alloc] at hz; have hr := hz.rowOf; have hl := hz.lt)
  have hz2 := hz.alloc (Obj.cells (relCells n (closedF n f)) 36)
  refine bodyPost_ret ((results_cell_tmp rfl _ _ _).trans (by simp [asAddr]; rw [run_loadVar_row _ _ 36 _ _ (0, 0) _ (hz2.row _) Try.underlying36 rfl (rel_info _ _)]; rfl)) rfl ?_
  exact ⟨rfl, by (repeat (first | assumption | exact Below.refl _ _ | refine bel_alloc ?_ _ | refine Below.drew ?_ | refine below_drewN' ?_ _ | (refine bel_set ?_ (by first | (simp; done) | (simp; omega)) _) | (refine bel_row ?_ (by first | (simp; done) | (simp; omega)) _)))⟩
end Go.Proofs.Ytbhjljnbjomnhaa

namespace Go.Proofs.Ytbhjljnbjomnhaa
open Go.RowKit

/-- the set of a list's items, as bits -/
def maskOf (out : List Nat) : Nat := out.foldl (fun m i => m ||| 2 ^ i) 0
theorem maskOf_snoc (out : List Nat) (i : Nat) : maskOf (out ++ [i]) = maskOf out ||| 2 ^ i := by simp [maskOf]
theorem maskOf_bit (out : List Nat) (j : Nat) : (maskOf out).testBit j = out.contains j := by
  suffices h : ∀ (out : List Nat) (m : Nat), (out.foldl (fun m i => m ||| 2 ^ i) m).testBit j = (m.testBit j || out.contains j) by
    have := h out 0
    simpa [maskOf] using this
  intro out
  induction out with
  | nil => intro m; simp
  | cons i out ih =>
    intro m
    rw [List.foldl_cons, ih, Nat.testBit_or, Nat.testBit_two_pow, List.contains_cons]
    by_cases h : i = j
    · subst h; simp
    · have h' : ¬ j = i := fun e => h e.symm
      have h2 : (j == i) = false := by simpa using h'
      simp [h, h2]
theorem maskOf_lt (out : List Nat) (n : Nat) (h : ∀ i ∈ out, i < n) : maskOf out < 2 ^ n := by
  apply Nat.lt_pow_two_of_testBit
  intro i hi
  rw [maskOf_bit]
  rw [Bool.eq_false_iff]
  intro hc
  have := h i (by simpa using hc)
  omega
theorem bit_zero (m i : Nat) : ((((m >>> i) &&& 1 : Nat) : Int) = 0) ↔ m.testBit i = false := by
  rw [Nat.testBit, Nat.and_comm]
  constructor
  · intro h
    have : (1 &&& m >>> i : Nat) = 0 := by exact_mod_cast h
    simp [this]
  · intro h
    have : (1 &&& m >>> i : Nat) = 0 := by simpa using h
    exact_mod_cast this
theorem andNot_zero (a b : Nat) (ha : a < 65536) (hb : b < 65536) : (((a &&& (65535 - b) : Nat) : Int) = 0) ↔ ∀ j, a.testBit j = true → b.testBit j = true := by
  have e : (((a &&& (65535 - b) : Nat) : Int) = 0) ↔ (a &&& (65535 - b)) = 0 := by constructor <;> intro h <;> exact_mod_cast h
  rw [e]
  have tb : ∀ j, (65535 - b).testBit j = (decide (j < 16) && !b.testBit j) := fun j => by
    rw [show 65535 - b = 2 ^ 16 - (b + 1) by omega, Nat.testBit_two_pow_sub_succ (by omega)]
  constructor
  · intro h j hj
    have := congrArg (fun x => Nat.testBit x j) h
    simp only [Nat.testBit_and, tb, hj, Nat.zero_testBit, Bool.true_and] at this
    have hj16 : j < 16 := by
      rcases Nat.lt_or_ge j 16 with h | h
      · exact h
      · rw [Nat.testBit_lt_two_pow (Nat.lt_of_lt_of_le ha (show 65536 ≤ 2 ^ j from (show (65536 : Nat) = 2 ^ 16 by decide) ▸ Nat.pow_le_pow_right (by omega) h))] at hj; cases hj
    simpa [hj16] using this
  · intro h
    apply Nat.eq_of_testBit_eq
    intro j
    simp only [Nat.testBit_and, tb, Nat.zero_testBit]
    by_cases hj : a.testBit j = true
    · simp [hj, h j hj]
    · simp [hj]

/-- who may come next -/
def mayC (n : Nat) (f : Nat → Nat) (out : List Nat) (i : Nat) : Bool := !out.contains i && (List.range n).all fun j => !(f j).testBit i || out.contains j
def grow (n : Nat) (f : Nat → Nat) : Nat → List Nat → List Nat
  | 0, out => out
  | m + 1, out => match (List.range n).find? (mayC n f out) with
    | some i => grow n f m (out ++ [i])
    | none => out
def leastL (n : Nat) (f : Nat → Nat) : List Nat := grow n f n []
theorem find_at {n i : Nat} {p : Nat → Bool} (hi : i < n) (h : ∀ k, k < i → p k = false) (hp : p i = true) : (List.range n).find? p = some i := by
  rw [List.find?_range_eq_some]
  exact ⟨hp, by simpa using hi, fun j hj => by simp [h j hj]⟩
theorem may_mask (n : Nat) (f : Nat → Nat) (out : List Nat) (i : Nat) (hn : n ≤ 12) (hout : ∀ k ∈ out, k < n) :
    mayC n f out i = true ↔ ((((maskOf out >>> i) &&& 1 : Nat) : Int) = 0) ∧ (((befF f i n &&& (65535 - maskOf out) : Nat) : Int) = 0) := by
  have hm := maskOf_lt out 16 (fun k hk => by have := hout k hk; omega)
  rw [bit_zero, andNot_zero (befF f i n) _ (bitsTo_lt_16 _ (by omega)) (by simpa using hm), maskOf_bit]
  simp only [mayC, Bool.and_eq_true, Bool.not_eq_true', List.all_eq_true, List.mem_range, Bool.or_eq_true]
  constructor
  · rintro ⟨h1, h2⟩
    refine ⟨h1, fun j hj => ?_⟩
    simp only [befF, bitsTo_testBit, Bool.and_eq_true, decide_eq_true_eq] at hj
    rw [maskOf_bit]
    rcases h2 j hj.1 with h | h
    · rw [hj.2] at h; cases h
    · exact h
  · rintro ⟨h1, h2⟩
    refine ⟨h1, fun j hj => ?_⟩
    cases hb : (f j).testBit i
    · exact .inl rfl
    · right
      have := h2 j (by simp only [befF, bitsTo_testBit, hj, hb]; simp)
      rwa [maskOf_bit] at this
end Go.Proofs.Ytbhjljnbjomnhaa

namespace Go.Proofs.Ytbhjljnbjomnhaa
open Go.RowKit

def natL (l : List Nat) : List Int := l.map fun (i : Nat) => (i : Int)
theorem natL_snoc (l : List Nat) (i : Nat) : natL (l ++ [i]) = natL l ++ [(i : Int)] := by simp [natL]
theorem natL_len (l : List Nat) : (natL l).length = l.length := by simp [natL]
theorem below_succ {p : Nat → Bool} {b : Bool} {k : Nat} (h : ∀ j, j < k → p j = b) (hk : p k = b) : ∀ j, j < k + 1 → p j = b := fun j hj => by
  by_cases e : j = k
  · rw [e]; exact hk
  · exact h j (by omega)
theorem snoc_nodup {out : List Nat} {k : Nat} (h : out.Nodup) (hk : k ∉ out) : (out ++ [k]).Nodup := by
  rw [List.nodup_append]
  refine ⟨h, by simp, fun a ha b hb => ?_⟩
  simp only [List.mem_singleton] at hb
  subst hb
  exact fun e => hk (e ▸ ha)
/-- there is always one who may come next -/
def Ripe (n : Nat) (f : Nat → Nat) : Prop := ∀ out : List Nat, out.Nodup → (∀ i ∈ out, i < n) → out.length < n → ∃ i, i < n ∧ mayC n f out i = true
theorem may_new {n : Nat} {f : Nat → Nat} {out : List Nat} {i : Nat} (h : mayC n f out i = true) : i ∉ out := by
  simp only [mayC, Bool.and_eq_true, Bool.not_eq_true'] at h
  simpa using h.1
theorem may_no {n : Nat} {f : Nat → Nat} {out : List Nat} {i : Nat} (hn : n ≤ 12) (hout : ∀ k ∈ out, k < n) (h : ¬ ((((maskOf out >>> i) &&& 1 : Nat) : Int) = 0) ∨ ¬ (((befF f i n &&& (65535 - maskOf out) : Nat) : Int) = 0)) : mayC n f out i = false := by
  rw [Bool.eq_false_iff]
  intro hm
  have := (may_mask n f out i hn hout).1 hm
  rcases h with h | h
  · exact h this.1
  · exact h this.2
theorem nodup_len {n : Nat} {out : List Nat} (h : out.Nodup) (hb : ∀ i ∈ out, i < n) : out.length ≤ n := by
  have := h.length_le_of_subset (l₂ := List.range n) (fun i hi => by simpa using hb i hi)
  simpa using this

set_option maxRecDepth 100000 in
set_option maxHeartbeats 2000000 in
theorem least_ok (n : Nat) (f : Nat → Nat) (w : World) (hn : n ≤ 12) (hf : ∀ i, i < 12 → f i < 65536) (h0 : chkR n f = 0) (hc : isCyc n (closedF n f) = false) (hr : Ripe n (closedF n f)) :
    Calls Try.prog 55 #[.agg (relCells n f)] w fun e w' => ∃ A c, e = .returned (.tuple #[.slice A (natL (leastL n (closedF n f))).length c, .int .i64 0]) ∧
      Own intEnc 1 3 w' w.heap.size (.slice A (natL (leastL n (closedF n f))).length c) (natL (leastL n (closedF n f))) ∧ Below w.heap.size w w' := by
  have hcf : ∀ j, j < 12 → closedF n f j < 65536 := wOut_lt (B := 16) hf n hn n hn
  refine calls_T (S := []) [] Try.func55 rfl Try.ntmps55 (by simp) (Mem.nil _) ?_
  repeat' (first | (refine GO ?_) | (refine GOE ?_; (first | (rintro _ _ ⟨rfl, rfl⟩) | (rintro _ _ ⟨g, rfl, rfl⟩) | (rintro _ _ ⟨A', c', rfl, rfl⟩))) | ((refine GO2 ?_ ?_) <;> intro h <;> (try (repeat (first | with_reducible (replace h := of_decide_eq_true h) | with_reducible (replace h := of_decide_eq_false h) | with_reducible (replace h := bnt h) | with_reducible (replace h := bnf h) | with_reducible (replace h := Int.not_lt.mp h) | with_reducible (replace h := Int.not_le.mp h) | with_reducible (replace h := band_dec h) | with_reducible (replace h := band_decF h) | with_reducible (replace h := bor_dec h) | with_reducible (replace h := bor_decF h)))) <;> (try (exfalso; first | contradiction | omega))) | ((with_reducible (first | apply TD_e2z | apply TD_e3z | apply TL_e | apply TD_e2 | apply TD_e3)); ((with_reducible apply ES_callV); exact rfl; (intro w hw; exact acyclic_ok n f w hn hf h0 hc); exact rfl); (first | exact rfl | exact ⟨rfl, rfl, rfl⟩); (rintro _ _ ⟨rfl, rfl⟩); (try refine ⟨SUB, ?_⟩)))
  refine T_loop (X := List Nat × Option Addr × Nat)
    (fun x => [(7, .int .u16 (maskOf x.1 : Nat)), (6, .slice x.2.1 (natL x.1).length x.2.2), (4, .pointer (some ⟨g, 0, none⟩))])
    (fun x => [entOwn intEnc 1 3 x.2.1 x.2.2 (natL x.1), entBlk g 36 (relCells n (closedF n f))])
    (fun x => x.1.Nodup ∧ (∀ i ∈ x.1, i < n) ∧ grow n (closedF n f) (n - x.1.length) x.1 = leastL n (closedF n f)) (fun x => n - x.1.length) ([], none, 0)
    ⟨by simp, by simp, rfl⟩ (by (repeat (first | exact SubE.nil _ | refine SubE.cons rfl ?_))) (fun w hw => (hw.nilOwn intEnc 1 3).sub (by first | ((repeat (first | with_reducible exact List.nil_sublist _ | with_reducible exact List.Sublist.refl _ | with_reducible apply List.Sublist.cons_cons | with_reducible apply List.Sublist.cons)); done) | (repeat (first | exact List.nil_sublist _ | exact List.Sublist.refl _ | apply List.Sublist.cons_cons | apply List.Sublist.cons)))) ?_
  rintro ⟨out, A, c⟩ ⟨h1, h2, h3⟩
  dsimp only at h1 h2 h3 ⊢
  have hl := nodup_len h1 h2
  have hl2 := natL_len out
  have hm := maskOf_lt out 16 (fun k hk => by have := h2 k hk; omega)
  repeat' (first | (refine GO ?_) | (refine GOE ?_; (first | (rintro _ _ ⟨rfl, rfl⟩) | (rintro _ _ ⟨g, rfl, rfl⟩) | (rintro _ _ ⟨A', c', rfl, rfl⟩))) | ((refine GO2 ?_ ?_) <;> intro h <;> (try (repeat (first | with_reducible (replace h := of_decide_eq_true h) | with_reducible (replace h := of_decide_eq_false h) | with_reducible (replace h := bnt h) | with_reducible (replace h := bnf h) | with_reducible (replace h := Int.not_lt.mp h) | with_reducible (replace h := Int.not_le.mp h) | with_reducible (replace h := band_dec h) | with_reducible (replace h := band_decF h) | with_reducible (replace h := bor_dec h) | with_reducible (replace h := bor_decF h)))) <;> (try (exfalso; first | contradiction | omega))))
  · have hlt : out.length < n := by omega
    refine T_loop (X := Nat)
      (fun k => [(24, .int .i64 (k : Nat)), (23, .int .i64 n), (7, .int .u16 (maskOf out : Nat)), (6, .slice A (natL out).length c), (4, .pointer (some ⟨g, 0, none⟩))])
      (fun _ => [entOwn intEnc 1 3 A c (natL out), entBlk g 36 (relCells n (closedF n f))])
      (fun k => k ≤ n ∧ ∀ j, j < k → mayC n (closedF n f) out j = false) (fun k => n - k) 0
      ⟨by omega, by omega⟩ (by (repeat (first | exact SubE.nil _ | refine SubE.cons rfl ?_))) (by exact SUBS) ?_
    rintro k ⟨hk, hno⟩
    try dsimp only
    by_cases hkn : k < n
    · have hp := pow_lt_16 (m := k) (by omega)
      have hb := bitsTo_lt_16 (fun i => (closedF n f i).testBit k) (show n ≤ 16 by omega)
      repeat' (first | (refine GO ?_) | (refine GOE ?_; (first | (rintro _ _ ⟨rfl, rfl⟩) | (rintro _ _ ⟨g, rfl, rfl⟩) | (rintro _ _ ⟨A', c', rfl, rfl⟩))) | ((refine GO2 ?_ ?_) <;> intro h <;> (try (repeat (first | with_reducible (replace h := of_decide_eq_true h) | with_reducible (replace h := of_decide_eq_false h) | with_reducible (replace h := bnt h) | with_reducible (replace h := bnf h) | with_reducible (replace h := Int.not_lt.mp h) | with_reducible (replace h := Int.not_le.mp h) | with_reducible (replace h := band_dec h) | with_reducible (replace h := band_decF h) | with_reducible (replace h := bor_dec h) | with_reducible (replace h := bor_decF h)))) <;> (try (exfalso; first | contradiction | omega))) | ((with_reducible (first | apply TD_e2z | apply TD_e3z | apply TL_e | apply TD_e2 | apply TD_e3)); ((with_reducible apply ES_callV); exact rfl; (intro w hw; exact before_any n (closedF n f) k w hn (by omega) hcf); exact rfl); (first | exact rfl | exact ⟨rfl, rfl, rfl⟩); (rintro _ _ ⟨rfl, rfl⟩); (try refine ⟨SUB, ?_⟩)) | ((with_reducible (first | apply TD_e2z | apply TD_e3z | apply TL_e | apply TD_e2 | apply TD_e3)); ((with_reducible apply ES_append (enc := intEnc) (xs := [(k : Int)])); exact rfl; exact rfl; exact Lies.blk (by first | ((repeat (first | with_reducible exact List.mem_cons_self | with_reducible apply List.mem_cons_of_mem)); done) | (repeat (first | exact List.Mem.head _ | apply List.Mem.tail))); exact fun _ => rfl; exact fun _ => rfl; (intro A' c'; first | ((repeat (first | with_reducible exact Upd.here _ _ _ | with_reducible apply Upd.there)); done) | (repeat (first | exact Upd.here _ _ _ | apply Upd.there))); (simp; omega); decide; exact rfl); (first | exact rfl | exact ⟨rfl, rfl, rfl⟩); (rintro _ _ ⟨A', c', rfl, rfl⟩); (try refine ⟨SUB, ?_⟩)))
      · refine At_rounds (out ++ [k], A', c') ?_ ?_ ?_ ?_
        · have hmay := (may_mask n (closedF n f) out k hn h2).2 ⟨‹_›, ‹_›⟩
          refine ⟨?_, ?_, ?_⟩
          · exact snoc_nodup h1 (may_new hmay)
          · intro i hi
            rcases List.mem_append.1 hi with h | h
            · exact h2 i h
            · simp only [List.mem_singleton] at h; omega
          · rw [← h3]
            show grow n (closedF n f) (n - (out ++ [k]).length) (out ++ [k]) = _
            rw [show n - out.length = (n - (out ++ [k]).length) + 1 by simp; omega, grow, find_at hkn hno hmay]
        · simp; omega
        · simp only [natL_snoc, maskOf_snoc]; (repeat (first | exact SubE.nil _ | refine SubE.cons rfl ?_))
        · simp only [natL_snoc]; exact SUBS
      · (refine At_rounds (k + 1) ?_ ?_ ?_ ?_; (exact ⟨by omega, below_succ hno (may_no hn h2 (.inr ‹_›))⟩); (omega); ((repeat (first | exact SubE.nil _ | refine SubE.cons rfl ?_))); (exact SUBS))
      · (refine At_rounds (k + 1) ?_ ?_ ?_ ?_; (exact ⟨by omega, below_succ hno (may_no hn h2 (.inl ‹_›))⟩); (omega); ((repeat (first | exact SubE.nil _ | refine SubE.cons rfl ?_))); (exact SUBS))
    · obtain ⟨i, hi, hm⟩ := hr out h1 h2 hlt
      have := hno i (by omega)
      rw [hm] at this; cases this
  · obtain rfl : out = leastL n (closedF n f) := by
      rw [show n - out.length = 0 by omega] at h3
      exact h3
    (refine At_ret Try.results55 rfl (fun w' hw => ?_))
    exact ⟨A, c, rfl, hw.ownOut rfl (by first | ((repeat (first | with_reducible exact List.mem_cons_self | with_reducible apply List.mem_cons_of_mem)); done) | (repeat (first | exact List.Mem.head _ | apply List.Mem.tail))), hw.below0 rfl⟩
end Go.Proofs.Ytbhjljnbjomnhaa
