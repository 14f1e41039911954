/- Relations: Check, RelRight, closed, Close, acyclic: what each computes, for every relation. -/
import Derived.Test.YtkhdihieepfcpaaOrder1
import Derived.Deep.MidRow
import Derived.Laws.ResultCell
namespace Go.Proofs.Ytkhdihieepfcpaa
open Go.RowKit
attribute [local go_sem ↓] run_eql_rel run_eqGuard_rel exec_load_rel exec_store_rel
attribute [local go_sem] relCells_size relCells_ones relCells_get0 relCells_getS

def relBad (n : Nat) (f : Nat → Nat) (i : Nat) : Bool := (decide (n ≤ i) && f i != 0) || f i / 2 ^ n != 0
def chkR (n : Int) (f : Nat → Nat) : Int := if n < 0 ∨ 12 < n then 1 else if (List.range 12).any (relBad n.toNat f) then 3 else 0
theorem chkR_arg {n : Int} {f : Nat → Nat} (h : n < 0 ∨ 12 < n) : chkR n f = 1 := by simp [chkR, h]
theorem chkR_in (n : Nat) (f : Nat → Nat) (h : n ≤ 12) : chkR n f = if (List.range 12).any (relBad n f) then 3 else 0 := by
  have : ¬ ((n : Int) < 0 ∨ 12 < (n : Int)) := by omega
  simp [chkR, this]
theorem chkR_bad {n : Nat} {f : Nat → Nat} (h : n ≤ 12) {k : Nat} (hk : k < 12) (hb : relBad n f k = true) : chkR n f = 3 := by
  rw [chkR_in n f h, if_pos (List.any_eq_true.2 ⟨k, by simpa using hk, hb⟩)]
theorem chkR_ok {n : Nat} {f : Nat → Nat} (h : n ≤ 12) (hb : ∀ k, k < 12 → relBad n f k = false) : chkR n f = 0 := by
  rw [chkR_in n f h, if_neg]
  intro e
  obtain ⟨k, hk, h2⟩ := List.any_eq_true.1 e
  rw [hb k (by simpa using hk)] at h2
  cases h2
theorem chkR_fine {n : Int} {f : Nat → Nat} (h : chkR n f = 0) : ∃ m : Nat, n = m ∧ m ≤ 12 ∧ ∀ k, k < 12 → (m ≤ k → f k = 0) ∧ f k < 2 ^ m := by
  by_cases h1 : n < 0 ∨ 12 < n
  · rw [chkR_arg h1] at h; cases h
  · refine ⟨n.toNat, by omega, by omega, fun k hk => ?_⟩
    have e : n = (n.toNat : Int) := by omega
    rw [e, chkR_in _ _ (by omega)] at h
    split at h
    · cases h
    · rename_i h2
      have hb : relBad n.toNat f k = false := by
        rw [Bool.eq_false_iff]
        intro e2
        exact h2 (List.any_eq_true.2 ⟨k, by simpa using hk, e2⟩)
      simp only [relBad, Bool.or_eq_false_iff, Bool.and_eq_false_iff, decide_eq_false_iff_not, bne_eq_false_iff_eq] at hb
      refine ⟨fun hm => by omega, ?_⟩
      have := hb.2
      rw [Nat.div_eq_zero_iff] at this
      have hp : 0 < 2 ^ n.toNat := Nat.two_pow_pos _
      omega

theorem div_cast_ne (x m : Nat) : (((x : Int) / 2 ^ m != 0) = true) ↔ x / 2 ^ m ≠ 0 := by
  have e : ((x : Int) / 2 ^ m) = ((x / 2 ^ m : Nat) : Int) := by simp
  rw [e, bne_iff_ne]
  omega
theorem relBad_t1 {m k : Nat} {f : Nat → Nat} (h1 : m ≤ k) (h2 : ¬ f k = 0) : relBad m f k = true := by simp [relBad, h1, h2]
theorem relBad_t2 {m k : Nat} {f : Nat → Nat} (h : ((f k : Int) / 2 ^ m != 0) = true) : relBad m f k = true := by
  have := (div_cast_ne _ _).1 h
  unfold relBad
  rw [Bool.or_eq_true, bne_iff_ne]
  exact .inr this
theorem relBad_f1 {m k : Nat} {f : Nat → Nat} (_h1 : m ≤ k) (h2 : f k = 0) : relBad m f k = false := by simp [relBad, h2]
theorem relBad_f2 {m k : Nat} {f : Nat → Nat} (h1 : ¬ m ≤ k) (h : ((f k : Int) / 2 ^ m != 0) = false) : relBad m f k = false := by
  have h3 : f k / 2 ^ m = 0 := by
    refine Decidable.byContradiction fun hn => ?_
    rw [(div_cast_ne _ _).2 hn] at h
    cases h
  have : decide (m ≤ k) = false := by simpa using h1
  unfold relBad
  rw [this, h3]
  rfl
theorem relBad_next {m k : Nat} {f : Nat → Nat} (h : Hid (∀ j, j < k → relBad m f j = false)) (hk : relBad m f k = false) : Hid (∀ j, j < k + 1 → relBad m f j = false) :=
  Lib.hid fun j hj => by
    by_cases e : j = k
    · subst e; exact hk
    · exact h.out j (by omega)
/-- as the reference asks it, bit by bit -/
def rb (m : Nat) (f : Nat → Nat) (k q : Nat) : Bool := (f k).testBit q && (decide (m ≤ k) || decide (m ≤ q))
theorem rb_next {m k q : Nat} {f : Nat → Nat} (h : Hid (∀ j, j < q → rb m f k j = false)) (hk : rb m f k q = false) : Hid (∀ j, j < q + 1 → rb m f k j = false) :=
  Lib.hid fun j hj => by
    by_cases e : j = q
    · subst e; exact hk
    · exact h.out j (by omega)
theorem rb_bad {m k q : Nat} {f : Nat → Nat} (h : rb m f k q = true) : relBad m f k = true := by
  simp only [rb, Bool.and_eq_true, Bool.or_eq_true, decide_eq_true_eq] at h
  obtain ⟨h1, h2⟩ := h
  have hne : f k ≠ 0 := by
    intro e
    rw [e] at h1
    simp at h1
  rcases h2 with h2 | h2
  · exact relBad_t1 h2 hne
  · unfold relBad
    rw [Bool.or_eq_true, bne_iff_ne]
    right
    intro e
    rw [Nat.div_eq_zero_iff] at e
    have hp : 0 < 2 ^ m := Nat.two_pow_pos _
    have hlt : f k < 2 ^ q := Nat.lt_of_lt_of_le (by omega) (Nat.pow_le_pow_right (n := 2) (by omega) h2)
    rw [Nat.testBit_lt_two_pow hlt] at h1
    cases h1
theorem rb_good {m k : Nat} {f : Nat → Nat} (hf : f k < 65536) (h : ∀ q, q < 16 → rb m f k q = false) : relBad m f k = false := by
  have h16 : (2 : Nat) ^ 16 = 65536 := by decide
  refine Decidable.byContradiction fun hn => ?_
  have hb : relBad m f k = true := by cases h3 : relBad m f k <;> simp_all
  simp only [relBad, Bool.or_eq_true, Bool.and_eq_true, decide_eq_true_eq, bne_iff_ne] at hb
  have key : ∃ q, q < 16 ∧ (f k).testBit q = true ∧ (m ≤ k ∨ m ≤ q) := by
    rcases hb with ⟨h1, h2⟩ | h2
    · obtain ⟨q, _, hq⟩ := Nat.exists_ge_and_testBit_of_ge_two_pow (n := 0) (x := f k) (by simp; omega)
      refine ⟨q, ?_, hq, .inl h1⟩
      refine Nat.lt_of_not_le fun h5 => ?_
      rw [Nat.testBit_lt_two_pow (Nat.lt_of_lt_of_le (by omega) (Nat.pow_le_pow_right (n := 2) (by omega) h5))] at hq
      cases hq
    · have hp : 0 < 2 ^ m := Nat.two_pow_pos _
      rw [Ne, Nat.div_eq_zero_iff] at h2
      obtain ⟨q, hq1, hq⟩ := Nat.exists_ge_and_testBit_of_ge_two_pow (n := m) (x := f k) (by omega)
      refine ⟨q, ?_, hq, .inr hq1⟩
      refine Nat.lt_of_not_le fun h5 => ?_
      rw [Nat.testBit_lt_two_pow (Nat.lt_of_lt_of_le (by omega) (Nat.pow_le_pow_right (n := 2) (by omega) h5))] at hq
      cases hq
  obtain ⟨q, hq, h1, h2⟩ := key
  have := h q hq
  simp [rb, h1] at this
  omega

theorem run_index_after (f : Nat → Nat) (k : Nat) (hk : k < 12) (w : World) : (Instr.index 35 (.agg (u16s f 12).toArray) (.int .i64 k)).run Try.prog w = .ok (.int .u16 (f k)) w := by
  have h1 : (u16s f 12)[k]? = some (.int .u16 (f k)) := by simp [u16s, hk]
  have h2 : (0 : Int) ≤ (k : Int) ∧ (k : Int) < 12 := by omega
  simp only [Instr.index, asIntOf, Sem.run_bind, Sem.run_pure, Result.andThen_ok, run_underlying Try.underlying35]
  simp [h2, part, h1]

set_option maxRecDepth 20000 in
set_option maxHeartbeats 1000000 in
theorem relCheck_any (n : Int) (f : Nat → Nat) (w : World) (hf : ∀ i, i < 12 → f i < 65536) :
    Calls Try.prog 92 #[.agg (relCells n f)] w fun e w' => e = .returned (.int .i64 (chkR n f)) ∧ Below w.heap.size w w' := by
  by_cases hn : n < 0 ∨ 12 < n
  · have Hn := Lib.hid (chkR_arg (f := f) hn)
    rcases hn with hn | hn
    · have hd : decide (n < 0) = true := by simpa using hn
      clear hn
      go_enter Try.func92, Try.ntmps92
      go_wp2_with (fail)
      go_ret
      exact ⟨ret_int Hn.out.symm, by (repeat (first | assumption | exact Below.refl _ _ | refine bel_alloc ?_ _ | refine Below.drew ?_ | refine below_drewN' ?_ _ | (refine bel_set ?_ (by first | (simp; done) | (simp; omega)) _) | (refine bel_row ?_ (by first | (simp; done) | (simp; omega)) _)))⟩
    · have hd : decide (n < 0) = false := by simp; omega
      go_enter Try.func92, Try.ntmps92
      go_wp2_with (fail)
      go_ret
      exact ⟨ret_int Hn.out.symm, by (repeat (first | assumption | exact Below.refl _ _ | refine bel_alloc ?_ _ | refine Below.drew ?_ | refine below_drewN' ?_ _ | (refine bel_set ?_ (by first | (simp; done) | (simp; omega)) _) | (refine bel_row ?_ (by first | (simp; done) | (simp; omega)) _)))⟩
  · obtain ⟨m, rfl⟩ : ∃ m : Nat, n = m := ⟨n.toNat, by omega⟩
    have hm : m ≤ 12 := by omega
    have Hf := Lib.hid hf
    clear hf hn
    go_enter Try.func92, Try.ntmps92
    have hr : (w.alloc (.cells (relCells m f) 37)).rangeAt w.heap.size 1 (u16s f 12) := fun j v hv => by
      have hj : j < 12 := by
        have := (List.getElem?_eq_some_iff.1 hv).1
        simpa [u16s] using this
      rw [(Blk.new w 37 (relCells m f)).cell (1 + j), relCells_at _ _ _ hj]
      simpa [u16s, hj] using hv
    go_wp2_with (refine wpList_load_mid rfl 35 _ rfl w.heap.size 1 rfl (u16s f 12) _ hr Try.underlying35 rfl (by kernel_rfl) ?_)
    go_loopw [15] (fun i wr => ∃ k : Nat, k ≤ 12 ∧ i = .int .i64 k ∧ Hid (∀ j, j < k → relBad m f j = false) ∧ Below w.heap.size w wr ∧ Blk wr w.heap.size 37 (relCells m f)) (fun i _ => 12 - (intOf i).toNat)
    case atStart => exact ⟨0, by omega, rfl, Lib.hid (by omega), by (repeat (first | assumption | exact Below.refl _ _ | refine bel_alloc ?_ _ | refine Below.drew ?_ | refine below_drewN' ?_ _ | (refine bel_set ?_ (by first | (simp; done) | (simp; omega)) _) | (refine bel_row ?_ (by first | (simp; done) | (simp; omega)) _))), Blk.new _ _ _⟩
    case round =>
      obtain ⟨k, hk, rfl, hall, hbel, hblk⟩ := hrel
      clear hr
      have hrow := hblk.rowOf
      have c0 := (hblk.cell 0).trans (relCells_n _ _)
      by_cases hlt : k < 12
      · have hix := run_index_after f k hlt
        have Hb := Lib.hid (show relBad m f k = ((decide (m ≤ k) && f k != 0) || f k / 2 ^ m != 0) from rfl)
        go_wp2_with (fail)
        all_goals first
          | (go_ret; exact ⟨ret_int (chkR_bad hm hlt (by first | exact relBad_t1 (by assumption) (by assumption) | exact relBad_t2 (by assumption))).symm, by (repeat (first | assumption | exact Below.refl _ _ | refine bel_alloc ?_ _ | refine Below.drew ?_ | refine below_drewN' ?_ _ | (refine bel_set ?_ (by first | (simp; done) | (simp; omega)) _) | (refine bel_row ?_ (by first | (simp; done) | (simp; omega)) _)))⟩)
          | (go_roundw
             case rel => exact ⟨k + 1, by omega, by go_num, relBad_next hall (by first | exact relBad_f1 (by assumption) (by assumption) | exact relBad_f2 (by assumption) (by assumption)), by (repeat (first | assumption | exact Below.refl _ _ | refine bel_alloc ?_ _ | refine Below.drew ?_ | refine below_drewN' ?_ _ | (refine bel_set ?_ (by first | (simp; done) | (simp; omega)) _) | (refine bel_row ?_ (by first | (simp; done) | (simp; omega)) _))), hblk⟩
             case measure => simp [intOf]; omega)
      · obtain rfl : k = 12 := by omega
        go_wp2_with (fail)
        go_ret
        exact ⟨ret_int (chkR_ok hm hall.out).symm, hbel⟩

set_option maxRecDepth 20000 in
set_option maxHeartbeats 1000000 in
theorem relRight_any (n : Int) (f : Nat → Nat) (w : World) (hf : ∀ i, i < 12 → f i < 65536) :
    Calls Try.prog 21 #[.agg (relCells n f)] w fun e w' => e = .returned (.int .i64 (chkR n f)) ∧ Below w.heap.size w w' := by
  by_cases hn : n < 0 ∨ 12 < n
  · have Hn := Lib.hid (chkR_arg (f := f) hn)
    have hd : (decide (0 ≤ n) && decide (n ≤ 12)) = false := by simp; omega
    have Hd := Lib.hid hd
    clear hn hd
    go_enter Try.func21, Try.ntmps21
    go_wp2_with (go_at_call 42; refine (between_any _ _ _ _).mono ?_; rintro e w' ⟨rfl, rfl⟩; rw [Hd.out])
    go_ret
    exact ⟨ret_int Hn.out.symm, by (repeat (first | assumption | exact Below.refl _ _ | refine bel_alloc ?_ _ | refine Below.drew ?_ | refine below_drewN' ?_ _ | (refine bel_set ?_ (by first | (simp; done) | (simp; omega)) _) | (refine bel_row ?_ (by first | (simp; done) | (simp; omega)) _)))⟩
  · obtain ⟨m, rfl⟩ : ∃ m : Nat, n = m := ⟨n.toNat, by omega⟩
    have hm : m ≤ 12 := by omega
    have Hf := Lib.hid hf
    have Hd := Lib.hid (show (decide (0 ≤ (m : Int)) && decide ((m : Int) ≤ 12)) = true by simp; omega)
    clear hf hn
    go_enter Try.func21, Try.ntmps21
    go_wp2_with (go_at_call 42; refine (between_any _ _ _ _).mono ?_; rintro e w' ⟨rfl, rfl⟩; rw [Hd.out])
    go_loopw [9] (fun i wr => ∃ k : Nat, k ≤ 12 ∧ i = .int .i64 k ∧ Hid (∀ j, j < k → relBad m f j = false) ∧ Below w.heap.size w wr ∧ Blk wr w.heap.size 37 (relCells m f)) (fun i _ => 12 - (intOf i).toNat)
    case atStart => exact ⟨0, by omega, rfl, Lib.hid (by omega), by (repeat (first | assumption | exact Below.refl _ _ | refine bel_alloc ?_ _ | refine Below.drew ?_ | refine below_drewN' ?_ _ | (refine bel_set ?_ (by first | (simp; done) | (simp; omega)) _) | (refine bel_row ?_ (by first | (simp; done) | (simp; omega)) _))), Blk.new _ _ _⟩
    case round =>
      obtain ⟨k, hk, rfl, hall, hbel, hblk⟩ := hrel
      by_cases hlt : k < 12
      · have hk12 : (k : Int) < 12 := by omega
        go_wp2_with (fail)
        go_loopw [12] (fun i wr => ∃ q : Nat, q ≤ 16 ∧ i = .int .i64 q ∧ Hid (∀ j, j < q → rb m f k j = false) ∧ Below w.heap.size w wr ∧ Blk wr w.heap.size 37 (relCells m f)) (fun i _ => 16 - (intOf i).toNat)
        case atStart => exact ⟨0, by omega, rfl, Lib.hid (by omega), hbel, hblk⟩
        case round =>
          obtain ⟨q, hq, rfl, hall2, hbel2, hblk2⟩ := hrel
          have hrow := hblk2.rowOf
          by_cases hlt2 : q < 16
          · have Hr := Lib.hid (show rb m f k q = ((f k).testBit q && (decide (m ≤ k) || decide (m ≤ q))) from rfl)
            go_wp2_with (go_at_call 24; refine (ahead_any _ f k q _ (by omega) (by omega)).mono ?_; rintro e w1 ⟨rfl, hb1⟩; have hblk3 := hblk2.carry hb1; have hbel3 := bel_trans hbel2 hb1; have c3 := (hblk3.cell 0).trans (relCells_n _ _))
            all_goals first
              | (go_ret; exact ⟨ret_int (chkR_bad hm hlt (rb_bad (q := q) (by rw [Hr.out]; simp_all))).symm, hbel3⟩)
              | (go_roundw
                 case rel => exact ⟨q + 1, by omega, by go_num, rb_next hall2 (by rw [Hr.out]; simp_all), hbel3, hblk3⟩
                 case measure => simp [intOf]; omega)
          · obtain rfl : q = 16 := by omega
            go_wp2_with (fail)
            go_roundw
            case rel => exact ⟨k + 1, by omega, by go_num, relBad_next hall (rb_good (Hf.out k hlt) hall2.out), hbel2, hblk2⟩
            case measure => simp [intOf]; omega
      · obtain rfl : k = 12 := by omega
        go_wp2_with (fail)
        go_ret
        exact ⟨ret_int (chkR_ok hm hall.out).symm, hbel⟩

/-- Warshall's step, round, whole -/
def wStep (k : Nat) (f : Nat → Nat) (i : Nat) : Nat → Nat := if (f i).testBit k then upd f i (f i ||| f k) else f
def wIn (f : Nat → Nat) (k : Nat) : Nat → (Nat → Nat)
  | 0 => f
  | m + 1 => wStep k (wIn f k m) m
def wOut (f : Nat → Nat) (n : Nat) : Nat → (Nat → Nat)
  | 0 => f
  | k + 1 => wIn (wOut f n k) k n
def closedF (n : Nat) (f : Nat → Nat) : Nat → Nat := wOut f n n
theorem wStep_lt {f : Nat → Nat} {B : Nat} (h : ∀ i, i < 12 → f i < 2 ^ B) (k i : Nat) (hk : k < 12) (hi : i < 12) : ∀ j, j < 12 → wStep k f i j < 2 ^ B := by
  intro j hj
  unfold wStep
  split
  · unfold upd
    split
    · exact Nat.or_lt_two_pow (h i hi) (h k hk)
    · exact h j hj
  · exact h j hj
theorem wIn_lt {f : Nat → Nat} {B : Nat} (h : ∀ i, i < 12 → f i < 2 ^ B) (k : Nat) (hk : k < 12) : ∀ m, m ≤ 12 → ∀ j, j < 12 → wIn f k m j < 2 ^ B
  | 0, _ => h
  | m + 1, hm => wStep_lt (wIn_lt h k hk m (by omega)) k m hk (by omega)
theorem wOut_lt {f : Nat → Nat} {B : Nat} (h : ∀ i, i < 12 → f i < 2 ^ B) (n : Nat) (hn : n ≤ 12) : ∀ k, k ≤ 12 → ∀ j, j < 12 → wOut f n k j < 2 ^ B
  | 0, _ => h
  | k + 1, hk => wIn_lt (wOut_lt h n hn k (by omega)) k (by omega) n hn

set_option maxRecDepth 20000 in
set_option maxHeartbeats 2000000 in
theorem closed_any (n : Nat) (f : Nat → Nat) (w : World) (hn : n ≤ 12) (hf : ∀ i, i < 12 → f i < 65536) :
    Calls Try.prog 139 #[.agg (relCells n f)] w fun e w' => e = .returned (.agg (relCells n (closedF n f))) ∧ Below w.heap.size w w' := by
  have Hf : Hid (∀ k, k ≤ 12 → ∀ j, j < 12 → wOut f n k j < 65536) := Lib.hid (wOut_lt (B := 16) hf n hn)
  clear hf
  go_enter Try.func139, Try.ntmps139
  go_wp2_with (fail)
  go_loopw [7] (fun i wr => ∃ k : Nat, k ≤ n ∧ i = .int .i64 k ∧ Below w.heap.size w wr ∧ Blk wr w.heap.size 37 (relCells n (wOut f n k)) ∧ Blk wr (w.heap.size + 1) 37 (relCells 0 (fun _ => 0))) (fun i _ => n - (intOf i).toNat)
  case atStart => exact ⟨0, by omega, rfl, by (repeat (first | assumption | exact Below.refl _ _ | refine bel_alloc ?_ _ | refine Below.drew ?_ | refine below_drewN' ?_ _ | (refine bel_set ?_ (by first | (simp; done) | (simp; omega)) _) | (refine bel_row ?_ (by first | (simp; done) | (simp; omega)) _))), (Blk.new _ _ _).alloc _, by rw [relCells_zero]; exact Blk.new' _ _ _ _ (by simp)⟩
  case round =>
    obtain ⟨k, hk, rfl, hbel, hblk, hres⟩ := hrel
    have c0 := (hblk.cell 0).trans (relCells_n _ _)
    by_cases hlt : k < n
    · have hb16 := Lib.hid (wIn_lt (B := 16) (Hf.out k (by omega)) k (by omega))
      have hnext := Lib.hid (show wOut f n (k + 1) = wIn (wOut f n k) k n from rfl)
      have hfirst := Lib.hid (show wIn (wOut f n k) k 0 = wOut f n k from rfl)
      have hblk0 : Blk wr w.heap.size 37 (relCells n (wIn (wOut f n k) k 0)) := hblk
      clear hblk
      generalize wOut f n k = g at *
      go_wp2_with (fail)
      go_loopw [12] (fun i wr => ∃ m : Nat, m ≤ n ∧ i = .int .i64 m ∧ Below w.heap.size w wr ∧ Blk wr w.heap.size 37 (relCells n (wIn g k m)) ∧ Blk wr (w.heap.size + 1) 37 (relCells 0 (fun _ => 0))) (fun i _ => n - (intOf i).toNat)
      case atStart => exact ⟨0, by omega, rfl, by (repeat (first | assumption | exact Below.refl _ _ | refine bel_alloc ?_ _ | refine Below.drew ?_ | refine below_drewN' ?_ _ | (refine bel_set ?_ (by first | (simp; done) | (simp; omega)) _) | (refine bel_row ?_ (by first | (simp; done) | (simp; omega)) _))), hblk0, hres⟩
      case round =>
        obtain ⟨m, hm, rfl, hbel2, hblk2, hres2⟩ := hrel
        have d0 := (hblk2.cell 0).trans (relCells_n _ _)
        by_cases hlt2 : m < n
        · have hs := Lib.hid (show wIn g k (m + 1) = wStep k (wIn g k m) m from rfl)
          have hb1 := hb16.out m (by omega) m (by omega)
          have hb2 := hb16.out m (by omega) k (by omega)
          have e16 : (2 : Nat) ^ 16 = 65536 := by decide
          rw [e16] at hb1 hb2
          clear e16 c0
          generalize wIn g k m = h at *
          have d1 := (hblk2.cell (1 + m)).trans (relCells_at _ _ m (by omega))
          have d2 := (hblk2.cell (1 + k)).trans (relCells_at _ _ k (by omega))
          have d3 := hblk2.frozen (1 + m)
          have d4 := hblk2.lt
          have hm12 : (m : Int) < 12 := by omega
          have hk12 : (k : Int) < 12 := by omega
          by_cases hbit : (h m).testBit k = true
          · have hw := Lib.hid (show wStep k h m = upd h m (h m ||| h k) by simp [wStep, hbit])
            have hb := (tb_and (h m) k hb1).trans hbit
            clear hbit
            have ho := u16_or_nat (h m) (h k) hb1 hb2
            go_wp2_with (fail)
            go_region
            go_wp2_with (fail)
            go_roundw
            case rel =>
              refine ⟨m + 1, by omega, by go_num, by (repeat (first | assumption | exact Below.refl _ _ | refine bel_alloc ?_ _ | refine Below.drew ?_ | refine below_drewN' ?_ _ | (refine bel_set ?_ (by first | (simp; done) | (simp; omega)) _) | (refine bel_row ?_ (by first | (simp; done) | (simp; omega)) _))), ?_, hres2.far (by simp) _⟩
              rw [hs.out, hw.out, ← relCells_set _ _ _ _ (by omega)]
              exact hblk2.set_ (1 + m) _
            case measure => simp [intOf]; omega
          · have hw := Lib.hid (show wStep k h m = h by simp [wStep, hbit])
            have hb := (tb_and (h m) k hb1).trans (Bool.eq_false_iff.2 hbit)
            clear hbit
            go_wp2_with (fail)
            go_roundw
            case rel => exact ⟨m + 1, by omega, by go_num, hbel2, by rw [hs.out, hw.out]; exact hblk2, hres2⟩
            case measure => simp [intOf]; omega
        · obtain rfl : m = n := by omega
          go_wp2_with (fail)
          go_roundw
          case rel => exact ⟨k + 1, by omega, by go_num, hbel2, by rw [hnext.out]; exact hblk2, hres2⟩
          case measure => simp [intOf]; omega
    · obtain rfl : k = n := by omega
      have r1 := hblk.rowOf
      have r2 := hres.rowOf
      go_wp2_with (fail)
      refine bodyPost_ret (results_cell_row rfl _ _ _ 37 _ (0, 0) _ rfl (hres.row _) Try.underlying37 rfl (rel_info _ _)) rfl ?_
      exact ⟨rfl, by (repeat (first | assumption | exact Below.refl _ _ | refine bel_alloc ?_ _ | refine Below.drew ?_ | refine below_drewN' ?_ _ | (refine bel_set ?_ (by first | (simp; done) | (simp; omega)) _) | (refine bel_row ?_ (by first | (simp; done) | (simp; omega)) _)))⟩

theorem results_cell_two {fn : Func} {p u v : Tmp} {ty : TypeId} (h : fn.results = #[.cell p ty, .tmp u, .tmp v]) (tmps : Array Value) (P : Program) (w : World) :
    (results fn tmps).run P w =
      ((asAddr (tmps.getD p undef)).run P w).andThen fun a w₁ => ((loadVar ty a).run P w₁).andThen fun x w₂ => .ok (.tuple #[x, tmps.getD u undef, tmps.getD v undef]) w₂ := by
  simp only [results, h]
  simp [Sem.run_bind, Result.andThen]

def isCyc (n : Nat) (c : Nat → Nat) : Bool := (List.range n).any fun i => (c i).testBit i
theorem isCyc_at {n : Nat} {c : Nat → Nat} {k : Nat} (hk : k < n) (h : (c k).testBit k = true) : isCyc n c = true := List.any_eq_true.2 ⟨k, by simpa using hk, h⟩
theorem isCyc_no {n : Nat} {c : Nat → Nat} (h : ∀ k, k < n → (c k).testBit k = false) : isCyc n c = false := by
  rw [isCyc, List.any_eq_false]
  intro k hk
  rw [h k (by simpa using hk)]
  simp

set_option maxRecDepth 20000 in
set_option maxHeartbeats 2000000 in
theorem close_bad (n : Int) (f : Nat → Nat) (w : World) (hf : ∀ i, i < 12 → f i < 65536) (h0 : ¬ chkR n f = 0) :
    Calls Try.prog 118 #[.agg (relCells n f)] w fun e w' => e = .returned (.tuple #[.agg (relCells 0 (fun _ => 0)), .bool false, .int .i64 (chkR n f)]) ∧ Below w.heap.size w w' := by
  have hne : (chkR n f != 0) = true := by simp [h0]
  have Hf := Lib.hid hf
  clear h0 hf
  go_enter Try.func118, Try.ntmps118
  go_wp2_with (go_at_call 92; refine (relCheck_any _ _ _ Hf.out).mono ?_; rintro e w1 ⟨rfl, hb1⟩; have hz := (Blk.new (w.alloc (.cells (relCells n f) 37)) 37 (relCells 0 (fun _ => 0))).carry hb1; have hB := bel_trans (bel_alloc (bel_alloc (Below.refl _ w) _) _) hb1; simp only [World.size_alloc] at hz; have hr := hz.rowOf)
  refine bodyPost_ret ((results_cell_two rfl _ _ _).trans (by simp [asAddr]; rw [← relCells_zero, run_loadVar_row _ _ 37 _ _ (0, 0) _ (hz.row _) Try.underlying37 rfl (rel_info 0 (fun _ => 0))]; rfl)) rfl ?_
  exact ⟨rfl, by (repeat (first | assumption | exact Below.refl _ _ | refine bel_alloc ?_ _ | refine Below.drew ?_ | refine below_drewN' ?_ _ | (refine bel_set ?_ (by first | (simp; done) | (simp; omega)) _) | (refine bel_row ?_ (by first | (simp; done) | (simp; omega)) _)))⟩
set_option maxRecDepth 20000 in
set_option maxHeartbeats 2000000 in
theorem close_ok (n : Nat) (f : Nat → Nat) (w : World) (hn : n ≤ 12) (hf : ∀ i, i < 12 → f i < 65536) (h0 : chkR n f = 0) :
    Calls Try.prog 118 #[.agg (relCells n f)] w fun e w' => e = .returned (.tuple #[.agg (relCells n (closedF n f)), .bool (isCyc n (closedF n f)), .int .i64 0]) ∧ Below w.heap.size w w' := by
  have hne : (chkR n f != 0) = false := by simp [h0]
  have Hf := Lib.hid hf
  have Hc : Hid (∀ j, j < 12 → closedF n f j < 65536) := Lib.hid (wOut_lt (B := 16) hf n hn n hn)
  clear h0 hf
  go_enter Try.func118, Try.ntmps118
  go_wp2_with (first
    | (go_at_call 92; refine (relCheck_any _ _ _ Hf.out).mono ?_; rintro e w1 ⟨rfl, hb1⟩; have hx := ((Blk.new w 37 (relCells n f)).alloc (Obj.cells (relCells 0 (fun _ => 0)) 37)).carry hb1; have hz := (Blk.new (w.alloc (.cells (relCells n f) 37)) 37 (relCells 0 (fun _ => 0))).carry hb1; have hB := bel_trans (bel_alloc (bel_alloc (Below.refl _ w) _) _) hb1; simp only [World.size_alloc] at hz; have hr := hx.rowOf)
    | (go_at_call 139; refine (closed_any n f _ hn Hf.out).mono ?_; rintro e w2 ⟨rfl, hb2⟩; have hz2 := hz.carry hb2; have hB2 := bel_trans hB hb2))
  generalize hcc : closedF n f = c at *
  have Hcc := Lib.hid hcc
  clear hcc
  go_loopw [18] (fun i wr => ∃ k : Nat, k ≤ n ∧ i = .int .i64 k ∧ Hid (∀ j, j < k → (c j).testBit j = false) ∧ Below w.heap.size w wr ∧ Blk wr w2.heap.size 37 (relCells n c) ∧ Blk wr (w.heap.size + 1) 37 (relCells 0 (fun _ => 0))) (fun i _ => n - (intOf i).toNat)
  case atStart => exact ⟨0, by omega, rfl, Lib.hid (by omega), by (repeat (first | assumption | exact Below.refl _ _ | refine bel_alloc ?_ _ | refine Below.drew ?_ | refine below_drewN' ?_ _ | (refine bel_set ?_ (by first | (simp; done) | (simp; omega)) _) | (refine bel_row ?_ (by first | (simp; done) | (simp; omega)) _))), Blk.new _ _ _, hz2.alloc _⟩
  case round =>
    obtain ⟨k, hk, rfl, hall, hbel, hblk, hres⟩ := hrel
    have c0 := (hblk.cell 0).trans (relCells_n _ _)
    have r1 := hblk.rowOf
    have r2 := hres.rowOf
    by_cases hlt : k < n
    · have d1 := (hblk.cell (1 + k)).trans (relCells_at _ _ k (by omega))
      have hk12 : (k : Int) < 12 := by omega
      by_cases hbit : (c k).testBit k = true
      · have hb := (tb_and (c k) k (Hc.out k (by omega))).trans hbit
        have Hy := Lib.hid (isCyc_at hlt hbit)
        clear hbit
        go_wp2_with (fail)
        refine bodyPost_ret ((results_cell_two rfl _ _ _).trans (by simp [asAddr]; rw [run_loadVar_row _ _ 37 _ _ (0, 0) _ (hres.row _) Try.underlying37 rfl (rel_info _ _)]; rfl)) rfl ?_
        exact ⟨by rw [Hcc.out, Hy.out], by (repeat (first | assumption | exact Below.refl _ _ | refine bel_alloc ?_ _ | refine Below.drew ?_ | refine below_drewN' ?_ _ | (refine bel_set ?_ (by first | (simp; done) | (simp; omega)) _) | (refine bel_row ?_ (by first | (simp; done) | (simp; omega)) _)))⟩
      · have hb := (tb_and (c k) k (Hc.out k (by omega))).trans (Bool.eq_false_iff.2 hbit)
        have Hn := Lib.hid (Bool.eq_false_iff.2 hbit)
        clear hbit
        go_wp2_with (fail)
        go_roundw
        case rel => exact ⟨k + 1, by omega, by go_num, Lib.hid fun j hj => by
          by_cases e : j = k
          · subst e; exact Hn.out
          · exact hall.out j (by omega), hbel, hblk, hres⟩
        case measure => simp [intOf]; omega
    · obtain rfl : k = n := by omega
      go_wp2_with (fail)
      refine bodyPost_ret ((results_cell_two rfl _ _ _).trans (by simp [asAddr]; rw [run_loadVar_row _ _ 37 _ _ (0, 0) _ (hres.row _) Try.underlying37 rfl (rel_info _ _)]; rfl)) rfl ?_
      exact ⟨by rw [Hcc.out, isCyc_no hall.out], by (repeat (first | assumption | exact Below.refl _ _ | refine bel_alloc ?_ _ | refine Below.drew ?_ | refine below_drewN' ?_ _ | (refine bel_set ?_ (by first | (simp; done) | (simp; omega)) _) | (refine bel_row ?_ (by first | (simp; done) | (simp; omega)) _)))⟩

set_option maxRecDepth 20000 in
set_option maxHeartbeats 2000000 in
theorem acyclic_bad (n : Int) (f : Nat → Nat) (w : World) (hf : ∀ i, i < 12 → f i < 65536) (h0 : ¬ chkR n f = 0) :
    Calls Try.prog 72 #[.agg (relCells n f)] w fun e w' => e = .returned (.tuple #[.agg (relCells 0 (fun _ => 0)), .int .i64 (chkR n f)]) ∧ Below w.heap.size w w' := by
  have hne : (chkR n f != 0) = true := by simp [h0]
  have H0 := Lib.hid h0
  have Hf := Lib.hid hf
  clear h0 hf
  go_enter Try.func72, Try.ntmps72
  go_wp2_with (go_at_call 118; refine (close_bad _ _ _ Hf.out H0.out).mono ?_; rintro e w1 ⟨rfl, hb1⟩; have hz := (Blk.new (w.alloc (.cells (relCells n f) 37)) 37 (relCells 0 (fun _ => 0))).carry hb1; have hB := bel_trans (bel_alloc (bel_alloc (Below.refl _ w) _) _) hb1; simp only [World.size_alloc] at hz; have hr := hz.rowOf; have hl := hz.lt)
  have hz2 := hz.alloc (Obj.cells (relCells 0 (fun _ => 0)) 37)
  refine bodyPost_ret ((results_cell_tmp rfl _ _ _).trans (by simp [asAddr]; rw [← relCells_zero, run_loadVar_row _ _ 37 _ _ (0, 0) _ (hz2.row _) Try.underlying37 rfl (rel_info 0 (fun _ => 0))]; rfl)) rfl ?_
  exact ⟨rfl, by (repeat (first | assumption | exact Below.refl _ _ | refine bel_alloc ?_ _ | refine Below.drew ?_ | refine below_drewN' ?_ _ | (refine bel_set ?_ (by first | (simp; done) | (simp; omega)) _) | (refine bel_row ?_ (by first | (simp; done) | (simp; omega)) _)))⟩
set_option maxRecDepth 20000 in
set_option maxHeartbeats 2000000 in
theorem acyclic_cyc (n : Nat) (f : Nat → Nat) (w : World) (hn : n ≤ 12) (hf : ∀ i, i < 12 → f i < 65536) (h0 : chkR n f = 0) (hc : isCyc n (closedF n f) = true) :
    Calls Try.prog 72 #[.agg (relCells n f)] w fun e w' => e = .returned (.tuple #[.agg (relCells 0 (fun _ => 0)), .int .i64 4]) ∧ Below w.heap.size w w' := by
  have Hc := Lib.hid hc
  have H0 := Lib.hid h0
  have Hf := Lib.hid hf
  clear h0 hf hc
  go_enter Try.func72, Try.ntmps72
  go_wp2_with (go_at_call 118; refine (close_ok n f _ hn Hf.out H0.out).mono ?_; rintro e w1 ⟨rfl, hb1⟩; rw [Hc.out]; have hz := (Blk.new (w.alloc (.cells (relCells n f) 37)) 37 (relCells 0 (fun _ => 0))).carry hb1; have hB := bel_trans (bel_alloc (bel_alloc (Below.refl _ w) _) _) hb1; simp only [World.size_alloc] at hz; have hr := hz.rowOf; have hl := hz.lt)
  have hz2 := hz.alloc (Obj.cells (relCells n (closedF n f)) 37)
  refine bodyPost_ret ((results_cell_tmp rfl _ _ _).trans (by simp [asAddr]; rw [← relCells_zero, run_loadVar_row _ _ 37 _ _ (0, 0) _ (hz2.row _) Try.underlying37 rfl (rel_info 0 (fun _ => 0))]; rfl)) rfl ?_
  exact ⟨rfl, by (repeat (first | assumption | exact Below.refl _ _ | refine bel_alloc ?_ _ | refine Below.drew ?_ | refine below_drewN' ?_ _ | (refine bel_set ?_ (by first | (simp; done) | (simp; omega)) _) | (refine bel_row ?_ (by first | (simp; done) | (simp; omega)) _)))⟩
set_option maxRecDepth 20000 in
set_option maxHeartbeats 2000000 in
theorem acyclic_ok (n : Nat) (f : Nat → Nat) (w : World) (hn : n ≤ 12) (hf : ∀ i, i < 12 → f i < 65536) (h0 : chkR n f = 0) (hc : isCyc n (closedF n f) = false) :
    Calls Try.prog 72 #[.agg (relCells n f)] w fun e w' => e = .returned (.tuple #[.agg (relCells n (closedF n f)), .int .i64 0]) ∧ Below w.heap.size w w' := by
  have Hc := Lib.hid hc
  have H0 := Lib.hid h0
  have Hf := Lib.hid hf
  clear h0 hf hc
  go_enter Try.func72, Try.ntmps72
  go_wp2_with (go_at_call 118; refine (close_ok n f _ hn Hf.out H0.out).mono ?_; rintro e w1 ⟨rfl, hb1⟩; rw [Hc.out]; have hz := (Blk.new (w.alloc (.cells (relCells n f) 37)) 37 (relCells 0 (fun _ => 0))).carry hb1; have hB := bel_trans (bel_alloc (bel_alloc (Below.refl _ w) _) _) hb1; simp only [World.size_alloc] at hz; have hr := hz.rowOf; have hl := hz.lt)
  have hz2 := hz.alloc (Obj.cells (relCells n (closedF n f)) 37)
  refine bodyPost_ret ((results_cell_tmp rfl _ _ _).trans (by simp [asAddr]; rw [run_loadVar_row _ _ 37 _ _ (0, 0) _ (hz2.row _) Try.underlying37 rfl (rel_info _ _)]; rfl)) rfl ?_
  exact ⟨rfl, by (repeat (first | assumption | exact Below.refl _ _ | refine bel_alloc ?_ _ | refine Below.drew ?_ | refine below_drewN' ?_ _ | (refine bel_set ?_ (by first | (simp; done) | (simp; omega)) _) | (refine bel_row ?_ (by first | (simp; done) | (simp; omega)) _)))⟩
end Go.Proofs.Ytkhdihieepfcpaa
