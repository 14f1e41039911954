/- spans.Check, spans.of, spans.Of, spans.Meets and the reference's SpansRight, SpanRel: what each call computes, for every list of spans. -/
import Derived.Test.YtnbgcgpkpakicaaRows
import Derived.Test.YtnbgcgpkpakicaaRel
import Derived.Deep.QuietTactic
import Derived.BigQuiet
import Derived.RegionTactic
import Derived.BigRegion
import Derived.StillTailTactics
import Derived.Deep.RegionLaw
import Derived.Laws.ResultCell
import Derived.Laws.BitsAllLaws
namespace Go.Proofs.Ytnbgcgpkpakicaa
open Go.RowKit

structure Span where
  frm : Int
  til : Int

/-- the slice's address reads as the list of spans -/
def RdSpan (w : World) (A : Option Addr) (l : List Span) : Prop :=
  ∀ i s, l[i]? = some s → ∃ b o, A = some ⟨b, o, none⟩ ∧ b < w.heap.size ∧ w.cell? ⟨b, o + i * 2, none⟩ = some (.int .i64 s.frm) ∧ w.cell? ⟨b, o + i * 2 + 1, none⟩ = some (.int .i64 s.til)
theorem RdSpan.below {w w' : World} {A : Option Addr} {l : List Span} (h : RdSpan w A l) (hb : Below w.heap.size w w') : RdSpan w' A l := by
  intro i s hs
  obtain ⟨b, o, h1, h2, h3, h4⟩ := h i s hs
  exact ⟨b, o, h1, Nat.lt_of_lt_of_le h2 hb.size, (hb.cell (p := ⟨b, _, none⟩) h2).trans h3, (hb.cell (p := ⟨b, _, none⟩) h2).trans h4⟩
theorem RdSpan.at_ {w wr : World} {A : Option Addr} {l : List Span} (h : RdSpan w A l) (hb : Below w.heap.size w wr) (k : Nat) (hk : k < l.length) :
    ∃ b o, A = some ⟨b, o, none⟩ ∧ b < w.heap.size ∧ b < wr.heap.size ∧ wr.cell? ⟨b, o + k * 2, none⟩ = some (.int .i64 l[k].frm) ∧ wr.cell? ⟨b, o + k * 2 + 1, none⟩ = some (.int .i64 l[k].til) := by
  obtain ⟨b, o, h1, h2, h3, h4⟩ := h k l[k] (by simp [hk])
  exact ⟨b, o, h1, h2, Nat.lt_of_lt_of_le h2 hb.size, (hb.cell (p := ⟨b, _, none⟩) h2).trans h3, (hb.cell (p := ⟨b, _, none⟩) h2).trans h4⟩

def badSpan (s : Span) : Bool := decide (s.frm < 0) || decide (s.til < s.frm) || decide (1000000 < s.til)
def chk (l : List Span) : Int := if 12 < l.length then 2 else if l.any badSpan then 3 else 0
theorem chk_large {l : List Span} (h : 12 < l.length) : chk l = 2 := by simp [chk, h]
theorem chk_bad {l : List Span} (h : ¬ 12 < l.length) (k : Nat) (hk : k < l.length) (hb : badSpan l[k] = true) : chk l = 3 := by
  have : l.any badSpan = true := List.any_eq_true.2 ⟨l[k], List.getElem_mem hk, hb⟩
  simp [chk, h, this]
theorem chk_ok {l : List Span} (h : ¬ 12 < l.length) (hb : (l.take l.length).any badSpan = false) : chk l = 0 := by
  rw [List.take_length] at hb
  simp [chk, h, hb]
theorem any_take_succ {l : List Span} {k : Nat} (hk : k < l.length) (h : (l.take k).any badSpan = false) (hb : badSpan l[k] = false) : (l.take (k + 1)).any badSpan = false := by
  rw [List.take_succ_eq_append_getElem hk, List.any_append, h]
  simp [hb]

theorem between_any (a b c : Int) (w : World) :
    Calls Try.prog 16 #[.int .i64 a, .int .i64 b, .int .i64 c] w fun e w' => e = .returned (.bool (decide (b ≤ a) && decide (a ≤ c))) ∧ w = w' := by
  by_cases h1 : b ≤ a
  · by_cases h2 : a ≤ c
    · go_enter Try.func16, Try.ntmps16
      go_wp2
      go_ret
      simp [h1, h2]
    · go_enter Try.func16, Try.ntmps16
      go_wp2
      go_ret
      simp; omega
  · have h1' : decide (b ≤ a) = false := by simpa using h1
    go_enter Try.func16, Try.ntmps16
    go_wp2
    go_ret
    simp

set_option maxHeartbeats 1000000 in
theorem check_any (A : Option Addr) (c : Nat) (l : List Span) (w : World) (hl : l.length ≤ 9223372036854775807) (hA : RdSpan w A l) :
    Calls Try.prog 15 #[.slice A l.length c] w fun e w' => e = .returned (.int .i64 (chk l)) ∧ Below w.heap.size w w' := by
  by_cases h12 : 12 < l.length
  · go_enter Try.func15, Try.ntmps15
    go_wp2
    go_ret
    exact ⟨ret_int (chk_large h12).symm, Below.refl _ _⟩
  · go_enter Try.func15, Try.ntmps15
    go_wp2
    go_loopw [10] (fun i wr => ∃ k : Nat, k ≤ l.length ∧ i = .int .i64 k ∧ (l.take k).any badSpan = false ∧ Below w.heap.size w wr) (fun i _ => l.length - (intOf i).toNat)
    case atStart => exact ⟨0, by omega, rfl, by simp, Below.refl _ _⟩
    case round =>
      obtain ⟨k, hk, rfl, hb, hbel⟩ := hrel
      by_cases hlt : k < l.length
      · obtain ⟨b, o, rfl, -, hbs, c1, c2⟩ := hA.at_ hbel k hlt
        by_cases hbad : badSpan l[k] = true
        · have Hbad := Lib.hid hbad; clear hbad
          go_wp2
          all_goals first | (go_ret; exact ⟨ret_int (chk_bad h12 k hlt Hbad.out).symm, by (repeat (first | assumption | exact Below.refl _ _ | refine bel_alloc ?_ _ | refine Below.drew ?_ | refine below_drewN' ?_ _ | (refine bel_set ?_ (by simp) _) | (refine bel_row ?_ (by simp) _)))⟩) | (exfalso; have := Hbad.out; simp [badSpan] at this; omega)
        · have Hbad := Lib.hid (Bool.eq_false_iff.2 hbad); clear hbad
          go_wp2
          all_goals first | (exfalso; have := Hbad.out; simp [badSpan] at this; omega) | skip
          go_roundw
          case rel => exact ⟨k + 1, by omega, by go_num, any_take_succ hlt hb Hbad.out, by (repeat (first | assumption | exact Below.refl _ _ | refine bel_alloc ?_ _ | refine Below.drew ?_ | refine below_drewN' ?_ _ | (refine bel_set ?_ (by simp) _) | (refine bel_row ?_ (by simp) _)))⟩
          case measure => simp [intOf]; omega
      · obtain rfl : k = l.length := by omega
        go_wp2
        go_ret
        exact ⟨ret_int (chk_ok h12 hb).symm, hbel⟩

set_option maxHeartbeats 1000000 in
theorem right_any (A : Option Addr) (c : Nat) (l : List Span) (w : World) (hl : l.length ≤ 9223372036854775807) (hA : RdSpan w A l) :
    Calls Try.prog 14 #[.slice A l.length c] w fun e w' => e = .returned (.int .i64 (chk l)) ∧ Below w.heap.size w w' := by
  by_cases h12 : 12 < l.length
  · go_enter Try.func14, Try.ntmps14
    go_wp2
    go_ret
    exact ⟨ret_int (chk_large h12).symm, Below.refl _ _⟩
  · go_enter Try.func14, Try.ntmps14
    go_wp2
    go_loopw [10] (fun i wr => ∃ k : Nat, k ≤ l.length ∧ i = .int .i64 k ∧ (l.take k).any badSpan = false ∧ Below w.heap.size w wr) (fun i _ => l.length - (intOf i).toNat)
    case atStart => exact ⟨0, by omega, rfl, by simp, Below.refl _ _⟩
    case round =>
      obtain ⟨k, hk, rfl, hb, hbel⟩ := hrel
      by_cases hlt : k < l.length
      · obtain ⟨b, o, rfl, -, hbs, c1, c2⟩ := hA.at_ hbel k hlt
        go_wp2_with (go_at_call 16; refine (between_any _ _ _ _).mono ?_; rintro e w' ⟨rfl, rfl⟩)
        all_goals first | (go_ret; exact ⟨ret_int (chk_bad h12 k hlt (by simp only [badSpan, Bool.not_eq_true', Bool.not_eq_false', decide_eq_true_eq, decide_eq_false_iff_not, Bool.and_eq_true, Bool.or_eq_true, Bool.or_eq_false_iff, Bool.and_eq_false_iff] at *; omega)).symm, by (repeat (first | assumption | exact Below.refl _ _ | refine bel_alloc ?_ _ | refine Below.drew ?_ | refine below_drewN' ?_ _ | (refine bel_set ?_ (by simp) _) | (refine bel_row ?_ (by simp) _)))⟩) | skip
        go_roundw
        case rel => exact ⟨k + 1, by omega, by go_num, any_take_succ hlt hb (by simp only [badSpan, Bool.not_eq_true', Bool.not_eq_false', decide_eq_true_eq, decide_eq_false_iff_not, Bool.and_eq_true, Bool.or_eq_true, Bool.or_eq_false_iff, Bool.and_eq_false_iff] at *; omega), by (repeat (first | assumption | exact Below.refl _ _ | refine bel_alloc ?_ _ | refine Below.drew ?_ | refine below_drewN' ?_ _ | (refine bel_set ?_ (by simp) _) | (refine bel_row ?_ (by simp) _)))⟩
        case measure => simp [intOf]; omega
      · obtain rfl : k = l.length := by omega
        go_wp2
        go_ret
        exact ⟨ret_int (chk_ok h12 hb).symm, hbel⟩

/-- who is ahead of whom -/
def ahead (l : List Span) (i j : Nat) : Bool := match l[i]?, l[j]? with | some a, some b => decide (a.til < b.frm) | _, _ => false
theorem ahead_at {l : List Span} {i j : Nat} (hi : i < l.length) (hj : j < l.length) : ahead l i j = decide (l[i].til < l[j].frm) := by simp [ahead, hi, hj]
def relOfTo (l : List Span) (k : Nat) : Nat → Nat := fun i => if i < k then bitsTo (ahead l i) l.length else 0
theorem relOfTo_zero (l : List Span) : relOfTo l 0 = fun _ => 0 := by funext i; simp [relOfTo]
theorem relOfTo_start (l : List Span) (k : Nat) : upd (relOfTo l k) k (bitsTo (ahead l k) 0) = relOfTo l k := by
  funext i; by_cases h : i = k <;> simp [upd, h, relOfTo, bitsTo]
theorem relOfTo_done (l : List Span) (k : Nat) : upd (relOfTo l k) k (bitsTo (ahead l k) l.length) = relOfTo l (k + 1) := by
  funext i
  by_cases h : i = k
  · subst h; simp [upd, relOfTo]
  · have : (i < k) ↔ (i < k + 1) := by omega
    simp [upd, relOfTo, h, this]
theorem upd_upd (f : Nat → Nat) (i a b : Nat) : upd (upd f i a) i b = upd f i b := by
  funext j; by_cases h : j = i <;> simp [upd, h]
theorem upd_same (f : Nat → Nat) (i a : Nat) : upd f i a i = a := by simp [upd]
theorem pow_lt_16 {m : Nat} (h : m < 16) : 2 ^ m < 65536 := by
  have := Nat.pow_lt_pow_right (a := 2) (by omega) h
  simpa using this
theorem bitsTo_lt_16 (p : Nat → Bool) {m : Nat} (h : m ≤ 16) : bitsTo p m < 65536 := by
  have h1 := bitsTo_lt p m
  have h2 := Nat.pow_le_pow_right (n := 2) (by omega) h
  have : (2 : Nat) ^ 16 = 65536 := by decide
  omega
theorem or_pow (p : Nat → Bool) (m : Nat) : bitsTo p m ||| 2 ^ m = bitsTo p m + 2 ^ m := by
  have := Nat.two_pow_add_eq_or_of_lt (bitsTo_lt p m) 1
  simp only [Nat.mul_one] at this
  rw [Nat.or_comm, ← this, Nat.add_comm]
theorem wrap_pow {m : Nat} (h : m < 16) : IntKind.u16.wrap (2 ^ m) = ((2 ^ m : Nat) : Int) := by
  have := pow_lt_16 h
  have e : ((2 : Int) ^ m) = ((2 ^ m : Nat) : Int) := by simp
  rw [IntKind.wrap_u16, e]
  generalize 2 ^ m = x at *
  omega
theorem or_bit (p : Nat → Bool) {m : Nat} (h : m < 16) (hp : p m = true) : bits BinOp.or IntKind.u16 (bitsTo p m : Nat) (IntKind.u16.wrap (2 ^ m)) = ((bitsTo p (m + 1) : Nat) : Int) := by
  rw [wrap_pow h, u16_or_nat _ _ (bitsTo_lt_16 p (by omega)) (pow_lt_16 h), or_pow]
  simp [bitsTo, hp]
theorem add_bit (p : Nat → Bool) {m : Nat} (h : m < 15) (hp : p m = true) : IntKind.u16.wrap ((bitsTo p m : Nat) + IntKind.u16.wrap (2 ^ m)) = ((bitsTo p (m + 1) : Nat) : Int) := by
  have := bitsTo_lt_16 p (m := m + 1) (by omega)
  rw [wrap_pow (by omega), IntKind.wrap_u16]
  simp only [bitsTo, hp, if_true] at this ⊢
  generalize 2 ^ m = x at *
  generalize bitsTo p m = y at *
  omega


set_option maxHeartbeats 2000000 in
theorem of_any (A : Option Addr) (c : Nat) (l : List Span) (w : World) (hl : l.length ≤ 12) (hA : RdSpan w A l) :
    Calls Try.prog 47 #[.slice A l.length c] w fun e w' => e = .returned (.agg (relCells l.length (relOfTo l l.length))) ∧ Below w.heap.size w w' := by
  go_enter Try.func47, Try.ntmps47
  go_wp2
  go_loopw [13] (fun i wr => ∃ k : Nat, k ≤ l.length ∧ i = .int .i64 k ∧ Below w.heap.size w wr ∧ Blk wr (w.heap.size + 1) 31 (relCells l.length (relOfTo l k)) ∧ Blk wr w.heap.size 31 (relCells 0 (fun _ => 0))) (fun i _ => l.length - (intOf i).toNat)
  case atStart => exact ⟨0, by omega, rfl, by (repeat (first | assumption | exact Below.refl _ _ | refine bel_alloc ?_ _ | refine Below.drew ?_ | refine below_drewN' ?_ _ | (refine bel_set ?_ (by simp) _) | (refine bel_row ?_ (by simp) _))), by rw [relOfTo_zero, relCells_zero]; exact Blk.new' _ _ _ _ (by simp), by rw [relCells_zero]; exact (Blk.new _ _ _).alloc _⟩
  case round =>
    obtain ⟨k, hk, rfl, hbel, hblk, hres⟩ := hrel
    by_cases hlt : k < l.length
    · obtain ⟨b, o, rfl, hb0, hbs, c1, c2⟩ := hA.at_ hbel k hlt
      go_wp2
      obtain ⟨wo, rfl⟩ : ∃ wo : World, wo = wr := ⟨_, rfl⟩
      go_loopw [20] (fun i wr => ∃ m : Nat, m ≤ l.length ∧ i = .int .i64 m ∧ Below w.heap.size w wr ∧ Blk wr (w.heap.size + 1) 31 (relCells l.length (upd (relOfTo l k) k (bitsTo (ahead l k) m))) ∧ Blk wr w.heap.size 31 (relCells 0 (fun _ => 0)) ∧ Blk wr wo.heap.size 38 #[.int .i64 l[k].frm, .int .i64 l[k].til]) (fun i _ => l.length - (intOf i).toNat)
      case atStart => exact ⟨0, by omega, rfl, by (repeat (first | assumption | exact Below.refl _ _ | refine bel_alloc ?_ _ | refine Below.drew ?_ | refine below_drewN' ?_ _ | (refine bel_set ?_ (by simp) _) | (refine bel_row ?_ (by simp) _))), by rw [relOfTo_start]; exact hblk.alloc _, hres.alloc _, Blk.new _ _ _⟩
      case round =>
        obtain ⟨m, hm, rfl, hbel2, hblk2, hres2, ha2⟩ := hrel
        have hs1 := hblk.lt
        by_cases hlt2 : m < l.length
        · obtain ⟨b', o', e', hb0', hbs', d1, d2⟩ := hA.at_ hbel2 m hlt2
          obtain ⟨rfl, rfl⟩ : b = b' ∧ o = o' := by simpa using e'
          have a1 := ha2.cell 1
          have a2 := (hblk2.cell (1 + k)).trans (relCells_at _ _ k (by omega))
          have a3 := hblk2.frozen (1 + k)
          have a4 := hblk2.lt
          have a5 := ha2.lt
          have hp := ahead_at hlt hlt2
          have Hp := Lib.hid hp; clear hp
          simp only [List.getElem?_toArray, List.getElem?_cons_succ, List.getElem?_cons_zero] at a1
          rw [upd_same] at a2
          clear e'
          go_wp2
          · have hc : l[k].til < l[m].frm := by assumption
            go_roundw
            case rel =>
              refine ⟨m + 1, by omega, by go_num, by (repeat (first | assumption | exact Below.refl _ _ | refine bel_alloc ?_ _ | refine Below.drew ?_ | refine below_drewN' ?_ _ | (refine bel_set ?_ (by simp) _) | (refine bel_row ?_ (by simp) _))), ?_, (hres2.far (by simp) _).alloc _, (ha2.far (by simp; omega) _).alloc _⟩
              have := (hblk2.set_ (1 + k) (.int .u16 (bitsTo (ahead l k) (m + 1) : Nat))).alloc (Obj.cells #[Value.int IntKind.i64 l[m].frm, Value.int IntKind.i64 l[m].til] 38)
              rw [relCells_set _ _ _ _ (by omega), upd_upd] at this
              rw [or_bit _ (by omega) (by rw [Hp.out]; simpa using hc)]
              exact this
            case measure => simp [intOf]; omega
          · have hc : ¬ l[k].til < l[m].frm := by omega
            go_roundw
            case rel =>
              refine ⟨m + 1, by omega, by go_num, by (repeat (first | assumption | exact Below.refl _ _ | refine bel_alloc ?_ _ | refine Below.drew ?_ | refine below_drewN' ?_ _ | (refine bel_set ?_ (by simp) _) | (refine bel_row ?_ (by simp) _))), ?_, hres2.alloc _, ha2.alloc _⟩
              have e : bitsTo (ahead l k) (m + 1) = bitsTo (ahead l k) m := by simp [bitsTo, Hp.out, hc]
              rw [e]
              exact hblk2.alloc _
            case measure => simp [intOf]; omega
        · obtain rfl : m = l.length := by omega
          go_wp2
          go_roundw
          case rel => exact ⟨k + 1, by omega, by go_num, hbel2, by rw [← relOfTo_done]; exact hblk2, hres2⟩
          case measure => simp [intOf]; omega
    · obtain rfl : k = l.length := by omega
      go_wp2_with (first | (refine wpList_load_row rfl 31 _ rfl _ rfl 31 _ _ _ hblk Try.underlying31 rfl (rel_info _ _) ?_) | (refine wpList_store_row rfl 31 _ _ rfl _ _ rfl rfl 31 _ hres (rel_info _ _) (by simp [relCells_size]) (relCells_one _ _) ?_))
      refine bodyPost_ret (results_cell_row rfl _ _ _ 31 _ (0, 0) _ rfl (hres.row _) Try.underlying31 rfl (rel_info _ _)) rfl ?_
      exact ⟨rfl, by (repeat (first | assumption | exact Below.refl _ _ | refine bel_alloc ?_ _ | refine Below.drew ?_ | refine below_drewN' ?_ _ | (refine bel_set ?_ (by simp) _) | (refine bel_row ?_ (by simp) _)))⟩

set_option maxRecDepth 100000 in
set_option maxHeartbeats 2000000 in
theorem spanRel_any (A : Option Addr) (c : Nat) (l : List Span) (w : World) (hl : l.length ≤ 12) (hA : RdSpan w A l) :
    Calls Try.prog 17 #[.slice A l.length c] w fun e w' => e = .returned (.agg (relCells l.length (relOfTo l l.length))) ∧ Below w.heap.size w w' := by
  go_enter Try.func17, Try.ntmps17
  go_wp2
  go_loopw [11] (fun i wr => ∃ k : Nat, k ≤ l.length ∧ i = .int .i64 k ∧ Below w.heap.size w wr ∧ Blk wr (w.heap.size + 1) 31 (relCells l.length (relOfTo l k)) ∧ Blk wr w.heap.size 31 (relCells 0 (fun _ => 0))) (fun i _ => l.length - (intOf i).toNat)
  case atStart => exact ⟨0, by omega, rfl, by (repeat (first | assumption | exact Below.refl _ _ | refine bel_alloc ?_ _ | refine Below.drew ?_ | refine below_drewN' ?_ _ | (refine bel_set ?_ (by simp) _) | (refine bel_row ?_ (by simp) _))), by rw [relOfTo_zero, relCells_zero]; exact Blk.new' _ _ _ _ (by simp), by rw [relCells_zero]; exact (Blk.new _ _ _).alloc _⟩
  case round =>
    obtain ⟨k, hk, rfl, hbel, hblk, hres⟩ := hrel
    by_cases hlt : k < l.length
    · obtain ⟨b, o, rfl, hb0, hbs, c1, c2⟩ := hA.at_ hbel k hlt
      clear c1 c2
      go_wp2
      obtain ⟨wo, rfl⟩ : ∃ wo : World, wo = wr := ⟨_, rfl⟩
      go_loopw [16] (fun i wr => ∃ m : Nat, m ≤ l.length ∧ i = .int .i64 m ∧ Below w.heap.size w wr ∧ Blk wr (w.heap.size + 1) 31 (relCells l.length (upd (relOfTo l k) k (bitsTo (ahead l k) m))) ∧ Blk wr w.heap.size 31 (relCells 0 (fun _ => 0))) (fun i _ => l.length - (intOf i).toNat)
      case atStart => exact ⟨0, by omega, rfl, by (repeat (first | assumption | exact Below.refl _ _ | refine bel_alloc ?_ _ | refine Below.drew ?_ | refine below_drewN' ?_ _ | (refine bel_set ?_ (by simp) _) | (refine bel_row ?_ (by simp) _))), by rw [relOfTo_start]; exact hblk, hres⟩
      case round =>
        obtain ⟨m, hm, rfl, hbel2, hblk2, hres2⟩ := hrel
        have hs1 := hblk.lt
        by_cases hlt2 : m < l.length
        · obtain ⟨b', o', e', hb0', hbs', d1, d2⟩ := hA.at_ hbel2 m hlt2
          obtain ⟨b'', o'', e'', hb0'', hbs'', c1, c2⟩ := hA.at_ hbel2 k hlt
          obtain ⟨rfl, rfl⟩ : b = b' ∧ o = o' := by simpa using e'
          obtain ⟨rfl, rfl⟩ : b = b'' ∧ o = o'' := by simpa using e''
          have a2 := (hblk2.cell (1 + k)).trans (relCells_at _ _ k (by omega))
          have a3 := hblk2.frozen (1 + k)
          have a4 := hblk2.lt
          have hp := ahead_at hlt hlt2
          have Hp := Lib.hid hp; clear hp
          rw [upd_same] at a2
          clear e' e''
          have hki : (k : Int) < (l.length : Int) := by omega
          have hmi : (m : Int) < (l.length : Int) := by omega
          have hki2 : (k : Int) < 12 := by omega
          go_wp2
          go_quiet (fail)
          go_wp2
          · have hc : l[k].til < l[m].frm := by assumption
            go_region
            go_wp2
            go_roundw
            case rel =>
              refine ⟨m + 1, by omega, by go_num, by (repeat (first | assumption | exact Below.refl _ _ | refine bel_alloc ?_ _ | refine Below.drew ?_ | refine below_drewN' ?_ _ | (refine bel_set ?_ (by simp) _) | (refine bel_row ?_ (by simp) _))), ?_, hres2.far (by simp) _⟩
              have := hblk2.set_ (1 + k) (.int .u16 (bitsTo (ahead l k) (m + 1) : Nat))
              rw [relCells_set _ _ _ _ (by omega), upd_upd] at this
              rw [add_bit _ (by omega) (by rw [Hp.out]; simpa using hc)]
              exact this
            case measure => simp [intOf]; omega
          · have hc : ¬ l[k].til < l[m].frm := by omega
            go_roundw
            case rel =>
              refine ⟨m + 1, by omega, by go_num, by (repeat (first | assumption | exact Below.refl _ _ | refine bel_alloc ?_ _ | refine Below.drew ?_ | refine below_drewN' ?_ _ | (refine bel_set ?_ (by simp) _) | (refine bel_row ?_ (by simp) _))), ?_, hres2⟩
              have e : bitsTo (ahead l k) (m + 1) = bitsTo (ahead l k) m := by simp [bitsTo, Hp.out, hc]
              rw [e]
              exact hblk2
            case measure => simp [intOf]; omega
        · obtain rfl : m = l.length := by omega
          go_wp2
          go_roundw
          case rel => exact ⟨k + 1, by omega, by go_num, hbel2, by rw [← relOfTo_done]; exact hblk2, hres2⟩
          case measure => simp [intOf]; omega
    · obtain rfl : k = l.length := by omega
      go_wp2_with (first | (refine wpList_load_row rfl 31 _ rfl _ rfl 31 _ _ _ hblk Try.underlying31 rfl (rel_info _ _) ?_) | (refine wpList_store_row rfl 31 _ _ rfl _ _ rfl rfl 31 _ hres (rel_info _ _) (by simp [relCells_size]) (relCells_one _ _) ?_))
      refine bodyPost_ret (results_cell_row rfl _ _ _ 31 _ (0, 0) _ rfl (hres.row _) Try.underlying31 rfl (rel_info _ _)) rfl ?_
      exact ⟨rfl, by (repeat (first | assumption | exact Below.refl _ _ | refine bel_alloc ?_ _ | refine Below.drew ?_ | refine below_drewN' ?_ _ | (refine bel_set ?_ (by simp) _) | (refine bel_row ?_ (by simp) _)))⟩

set_option maxHeartbeats 1000000 in
theorem Of_ok (A : Option Addr) (c : Nat) (l : List Span) (w : World) (hl : l.length ≤ 9223372036854775807) (hA : RdSpan w A l) (h0 : chk l = 0) :
    Calls Try.prog 12 #[.slice A l.length c] w fun e w' => e = .returned (.tuple #[.agg (relCells l.length (relOfTo l l.length)), .int .i64 0]) ∧ Below w.heap.size w w' := by
  have h12 : l.length ≤ 12 := by
    refine Nat.le_of_not_lt fun h => ?_
    rw [chk_large h] at h0; omega
  have H0 := Lib.hid h0
  have hne : (chk l != 0) = false := by simp [h0]
  clear h0
  go_enter Try.func12, Try.ntmps12
  go_wp2_with (first | (go_at_call 15; refine (check_any _ _ _ _ (by omega) (hA.below (by (repeat (first | assumption | exact Below.refl _ _ | refine bel_alloc ?_ _ | refine Below.drew ?_ | refine below_drewN' ?_ _ | (refine bel_set ?_ (by simp) _) | (refine bel_row ?_ (by simp) _)))))).mono ?_; rintro e w1 ⟨rfl, hb1⟩) | (go_at_call 47; refine (of_any _ _ _ _ h12 (hA.below (bel_trans (by (repeat (first | assumption | exact Below.refl _ _ | refine bel_alloc ?_ _ | refine Below.drew ?_ | refine below_drewN' ?_ _ | (refine bel_set ?_ (by simp) _) | (refine bel_row ?_ (by simp) _)))) hb1))).mono ?_; rintro e w2 ⟨rfl, hb2⟩; have hz := ((Blk.new w _ _).below hb1 (by simp)).below hb2 (Nat.lt_of_lt_of_le (by simp) hb1.size)) | (refine wpList_store_row rfl 31 _ _ rfl _ _ rfl rfl 31 _ hz (rel_info _ _) (by simp [relCells_size]) (relCells_one _ _) ?_))
  refine bodyPost_ret ((results_cell_tmp rfl _ _ _).trans (by simp [asAddr]; rw [run_loadVar_row _ _ 31 _ _ (0, 0) _ (hz.row _) Try.underlying31 rfl (rel_info _ _)]; rfl)) rfl ?_
  exact ⟨by simp [H0.out], bel_row (bel_trans (bel_trans (by (repeat (first | assumption | exact Below.refl _ _ | refine bel_alloc ?_ _ | refine Below.drew ?_ | refine below_drewN' ?_ _ | (refine bel_set ?_ (by simp) _) | (refine bel_row ?_ (by simp) _)))) hb1) hb2) (by simp) _⟩

set_option maxHeartbeats 1000000 in
theorem Of_bad (A : Option Addr) (c : Nat) (l : List Span) (w : World) (hl : l.length ≤ 9223372036854775807) (hA : RdSpan w A l) (h0 : ¬ chk l = 0) :
    Calls Try.prog 12 #[.slice A l.length c] w fun e w' => e = .returned (.tuple #[.agg (relCells 0 (fun _ => 0)), .int .i64 (chk l)]) ∧ Below w.heap.size w w' := by
  have H0 := Lib.hid h0
  have hne : (chk l != 0) = true := by simp [h0]
  clear h0
  go_enter Try.func12, Try.ntmps12
  go_wp2_with (first | (go_at_call 15; refine (check_any _ _ _ _ (by omega) (hA.below (by (repeat (first | assumption | exact Below.refl _ _ | refine bel_alloc ?_ _ | refine Below.drew ?_ | refine below_drewN' ?_ _ | (refine bel_set ?_ (by simp) _) | (refine bel_row ?_ (by simp) _)))))).mono ?_; rintro e w1 ⟨rfl, hb1⟩; have hz := (Blk.new w _ _).below hb1 (by simp)) | (refine wpList_store_row rfl 31 _ _ rfl _ (relCells 0 (fun _ => 0)) rfl rfl 31 _ hz (rel_info _ _) (by simp [relCells_size]) (relCells_one _ _) ?_))
  refine bodyPost_ret ((results_cell_tmp rfl _ _ _).trans (by simp [asAddr]; rw [run_loadVar_row _ _ 31 _ _ (0, 0) _ (hz.row _) Try.underlying31 rfl (rel_info _ _)]; rfl)) rfl ?_
  exact ⟨by simp [H0.out], bel_row (bel_trans (by (repeat (first | assumption | exact Below.refl _ _ | refine bel_alloc ?_ _ | refine Below.drew ?_ | refine below_drewN' ?_ _ | (refine bel_set ?_ (by simp) _) | (refine bel_row ?_ (by simp) _)))) hb1) (by simp) _⟩

/-- the first time at which as many as possible meet: as the text finds it -/
def meetN (l : List Span) (t : Int) : Nat := l.countP fun s => decide (s.frm ≤ t) && decide (t ≤ s.til)
def meetStep (l : List Span) (s : Int × Int) (x : Span) : Int × Int :=
  if s.2 < meetN l x.frm ∨ ((meetN l x.frm : Int) = s.2 ∧ x.frm < s.1) then (x.frm, meetN l x.frm) else s
def meets (l : List Span) : Int × Int := l.foldl (meetStep l) (0, 0)
theorem meetN_succ (l : List Span) (t : Int) (k : Nat) (hk : k < l.length) : meetN (l.take (k + 1)) t = meetN (l.take k) t + if l[k].frm ≤ t ∧ t ≤ l[k].til then 1 else 0 := by
  unfold meetN
  rw [List.take_succ_eq_append_getElem hk, List.countP_append]
  by_cases h : l[k].frm ≤ t ∧ t ≤ l[k].til
  · simp [h]
  · rw [if_neg h]
    have : (decide (l[k].frm ≤ t) && decide (t ≤ l[k].til)) = false := by simp; omega
    simp [List.countP_cons, this]
theorem meetN_le (l : List Span) (t : Int) (m : Nat) : meetN (l.take m) t ≤ m := Nat.le_trans List.countP_le_length (List.length_take_le _ _)
theorem foldl_take_succ {α β : Type} (f : β → α → β) (b : β) (l : List α) (k : Nat) (hk : k < l.length) : (l.take (k + 1)).foldl f b = f ((l.take k).foldl f b) l[k] := by
  rw [List.take_succ_eq_append_getElem hk, List.foldl_append]
  rfl

set_option maxHeartbeats 4000000 in
theorem meets_ok (A : Option Addr) (c : Nat) (l : List Span) (w : World) (hl : l.length ≤ 9223372036854775807) (hA : RdSpan w A l) (h0 : chk l = 0) :
    Calls Try.prog 13 #[.slice A l.length c] w fun e w' => e = .returned (.tuple #[.int .i64 (meets l).1, .int .i64 (meets l).2, .int .i64 0]) ∧ Below w.heap.size w w' := by
  have H0 := Lib.hid h0
  have hne : (chk l != 0) = false := by simp [h0]
  clear h0
  go_enter Try.func13, Try.ntmps13
  go_wp2_with (go_at_call 15; refine (check_any _ _ _ _ (by omega) (hA.below (by (repeat (first | assumption | exact Below.refl _ _ | refine bel_alloc ?_ _ | refine Below.drew ?_ | refine below_drewN' ?_ _ | (refine bel_set ?_ (by simp) _) | (refine bel_row ?_ (by simp) _)))))).mono ?_; rintro e w1 ⟨rfl, hb1⟩)
  go_loopw [6, 7, 20] (fun a m i wr => ∃ k : Nat, k ≤ l.length ∧ i = .int .i64 k ∧ a = .int .i64 ((l.take k).foldl (meetStep l) (0, 0)).1 ∧ m = .int .i64 ((l.take k).foldl (meetStep l) (0, 0)).2 ∧ Below w.heap.size w wr) (fun _ _ i _ => l.length - (intOf i).toNat)
  case atStart => exact ⟨0, by omega, rfl, rfl, rfl, hb1⟩
  case round =>
    obtain ⟨k, hk, rfl, rfl, rfl, hbel⟩ := hrel
    by_cases hlt : k < l.length
    · obtain ⟨b, o, rfl, hb0, hbs, c1, c2⟩ := hA.at_ hbel k hlt
      have hf := foldl_take_succ (meetStep l) (0, 0) l k hlt
      have Hf := Lib.hid hf; clear hf
      generalize (l.take k).foldl (meetStep l) (0, 0) = st at *
      go_wp2
      obtain ⟨wo, rfl⟩ : ∃ wo : World, wo = wr := ⟨_, rfl⟩
      go_loopw [10, 26] (fun n i wr => ∃ m : Nat, m ≤ l.length ∧ i = .int .i64 m ∧ n = .int .i64 (meetN (l.take m) l[k].frm) ∧ Below w.heap.size w wr ∧ Blk wr wo.heap.size 38 #[.int .i64 l[k].frm, .int .i64 l[k].til]) (fun _ i _ => l.length - (intOf i).toNat)
      case atStart => exact ⟨0, by omega, rfl, by simp [meetN], by (repeat (first | assumption | exact Below.refl _ _ | refine bel_alloc ?_ _ | refine Below.drew ?_ | refine below_drewN' ?_ _ | (refine bel_set ?_ (by simp) _) | (refine bel_row ?_ (by simp) _))), Blk.new _ _ _⟩
      case round =>
        obtain ⟨m, hm, rfl, rfl, hbel2, ha2⟩ := hrel
        have a0 := ha2.cell 0
        have a1 := ha2.cell 1
        have a5 := ha2.lt
        simp only [List.getElem?_toArray, List.getElem?_cons_succ, List.getElem?_cons_zero] at a0 a1
        by_cases hlt2 : m < l.length
        · obtain ⟨b', o', e', hb0', hbs', d1, d2⟩ := hA.at_ hbel2 m hlt2
          obtain ⟨rfl, rfl⟩ : b = b' ∧ o = o' := by simpa using e'
          have hs := meetN_succ l l[k].frm m hlt2
          have Hs := Lib.hid hs; clear hs e'
          have hle := meetN_le l l[k].frm m
          generalize meetN (l.take m) l[k].frm = cnt at *
          go_wp2
          all_goals
            go_roundw
            case rel => exact ⟨m + 1, by omega, by go_num, by rw [Hs.out]; split <;> first | go_num | (exfalso; omega), by (repeat (first | assumption | exact Below.refl _ _ | refine bel_alloc ?_ _ | refine Below.drew ?_ | refine below_drewN' ?_ _ | (refine bel_set ?_ (by simp) _) | (refine bel_row ?_ (by simp) _))), ha2.alloc _⟩
            case measure => simp [intOf]; omega
        · obtain rfl : m = l.length := by omega
          go_wp2
          all_goals
            go_roundw
            case rel => exact ⟨k + 1, by omega, by go_num, by rw [Hf.out, meetStep]; split <;> first | rfl | (simp; omega) | (exfalso; omega), by rw [Hf.out, meetStep]; split <;> first | rfl | (simp; omega) | (exfalso; omega), by (repeat (first | assumption | exact Below.refl _ _ | refine bel_alloc ?_ _ | refine Below.drew ?_ | refine below_drewN' ?_ _ | (refine bel_set ?_ (by simp) _) | (refine bel_row ?_ (by simp) _)))⟩
            case measure => simp [intOf]; omega
    · obtain rfl : k = l.length := by omega
      go_wp2
      go_ret3
      exact ⟨by simp [meets, H0.out], hbel⟩

set_option maxHeartbeats 1000000 in
theorem meets_bad (A : Option Addr) (c : Nat) (l : List Span) (w : World) (hl : l.length ≤ 9223372036854775807) (hA : RdSpan w A l) (h0 : ¬ chk l = 0) :
    Calls Try.prog 13 #[.slice A l.length c] w fun e w' => e = .returned (.tuple #[.int .i64 0, .int .i64 0, .int .i64 (chk l)]) ∧ Below w.heap.size w w' := by
  have H0 := Lib.hid h0
  have hne : (chk l != 0) = true := by simp [h0]
  clear h0
  go_enter Try.func13, Try.ntmps13
  go_wp2_with (go_at_call 15; refine (check_any _ _ _ _ (by omega) (hA.below (by (repeat (first | assumption | exact Below.refl _ _ | refine bel_alloc ?_ _ | refine Below.drew ?_ | refine below_drewN' ?_ _ | (refine bel_set ?_ (by simp) _) | (refine bel_row ?_ (by simp) _)))))).mono ?_; rintro e w1 ⟨rfl, hb1⟩)
  go_ret3
  exact ⟨by simp [H0.out], hb1⟩
end Go.Proofs.Ytnbgcgpkpakicaa
