/- serial.Check and the reference's DeedsRight: what each computes, for every list of deeds. No condition. -/
import Derived.Test.YtppicbdaijiifaaBetween
import Derived.Test.YtppicbdaijiifaaRead
import Derived.RegionTactic
import Derived.BigRegion
namespace Go.Proofs.Ytppicbdaijiifaa
open Go.RowKit

structure Deed where
  who : Int
  kind : Int
  item : Int
def Deed.enc (d : Deed) : List Value := [.int .i64 d.who, .int .i64 d.kind, .int .i64 d.item]
def RdDeed (w : World) (A : Option Addr) (l : List Deed) : Prop := RdE Deed.enc 3 w A l
theorem RdDeed.at_ {w wr : World} {A : Option Addr} {l : List Deed} (h : RdDeed w A l) (hb : Below w.heap.size w wr) (k : Nat) (hk : k < l.length) :
    ∃ b o, A = some ⟨b, o, none⟩ ∧ b < w.heap.size ∧ b < wr.heap.size ∧ wr.cell? ⟨b, o + k * 3, none⟩ = some (.int .i64 l[k].who) ∧ wr.cell? ⟨b, o + k * 3 + 1, none⟩ = some (.int .i64 l[k].kind) ∧ wr.cell? ⟨b, o + k * 3 + 2, none⟩ = some (.int .i64 l[k].item) := by
  obtain ⟨b, o, h1, h2, h3, h4⟩ := RdE.at_ h hb k hk
  exact ⟨b, o, h1, h2, h3, h4 0 _ rfl, h4 1 _ rfl, h4 2 _ rfl⟩

def badDeed (d : Deed) : Bool := decide (d.who < 0) || decide (5 < d.who) || decide (d.kind < 0) || decide (4 < d.kind) || decide (d.item < 0) || decide (5 < d.item)
def chkD (l : List Deed) : Int × Int := if 60 < l.length then (0, 2) else if l.findIdx badDeed < l.length then (l.findIdx badDeed, 3) else (0, 0)
theorem chkD_large {l : List Deed} (h : 60 < l.length) : chkD l = (0, 2) := by simp [chkD, h]
theorem chkD_bad {l : List Deed} (h : ¬ 60 < l.length) {k : Nat} (hk : k < l.length) (h0 : (l.take k).any badDeed = false) (hb : badDeed l[k] = true) : chkD l = ((k : Int), 3) := by
  have := findIdx_at hk h0 hb
  simp [chkD, h, this, hk]
theorem chkD_ok {l : List Deed} (h : ¬ 60 < l.length) (hb : (l.take l.length).any badDeed = false) : chkD l = (0, 0) := by
  have := findIdx_none hb
  simp [chkD, h, this]
theorem chkD_fine {l : List Deed} (h : (chkD l).2 = 0) : l.length ≤ 60 ∧ ∀ k (hk : k < l.length), 0 ≤ l[k].who ∧ l[k].who ≤ 5 ∧ 0 ≤ l[k].kind ∧ l[k].kind ≤ 4 ∧ 0 ≤ l[k].item ∧ l[k].item ≤ 5 := by
  unfold chkD at h
  by_cases h60 : 60 < l.length
  · simp [h60] at h
  · refine ⟨by omega, fun k hk => ?_⟩
    by_cases h3 : l.findIdx badDeed < l.length
    · simp [h60, h3] at h
    · have h4 : l.findIdx badDeed = l.length := by
        have := List.findIdx_le_length (p := badDeed) (xs := l)
        omega
      rw [List.findIdx_eq_length] at h4
      have := h4 l[k] (List.getElem_mem hk)
      simp only [badDeed, Bool.not_eq_true', Bool.not_eq_false', decide_eq_true_eq, decide_eq_false_iff_not, Bool.and_eq_true, Bool.or_eq_true, Bool.or_eq_false_iff, Bool.and_eq_false_iff] at this
      omega

set_option maxHeartbeats 1000000 in
theorem serialCheck_any (A : Option Addr) (c : Nat) (l : List Deed) (w : World) (hl : l.length ≤ 9223372036854775807) (hA : RdDeed w A l) :
    Calls Try.prog 53 #[.slice A l.length c] w fun e w' => e = .returned (.tuple #[.int .i64 (chkD l).1, .int .i64 (chkD l).2]) ∧ Below w.heap.size w w' := by
  by_cases h12 : 60 < l.length
  · go_enter Try.func53, Try.ntmps53
    go_wp2
    go_ret2
    exact ⟨by rw [chkD_large h12]; rfl, Below.refl _ _⟩
  · go_enter Try.func53, Try.ntmps53
    go_wp2
    go_loopw [11] (fun i wr => ∃ k : Nat, k ≤ l.length ∧ i = .int .i64 k ∧ (l.take k).any badDeed = false ∧ Below w.heap.size w wr) (fun i _ => l.length - (intOf i).toNat)
    case atStart => exact ⟨0, by omega, rfl, by simp, Below.refl _ _⟩
    case round =>
      obtain ⟨k, hk, rfl, hb, hbel⟩ := hrel
      by_cases hlt : k < l.length
      · obtain ⟨b, o, rfl, -, hbs, c0, c1, c2⟩ := hA.at_ hbel k hlt
        go_wp2
        all_goals first | (go_ret2; exact ⟨by rw [chkD_bad h12 hlt hb (by simp only [badDeed, Bool.not_eq_true', Bool.not_eq_false', decide_eq_true_eq, decide_eq_false_iff_not, Bool.and_eq_true, Bool.or_eq_true, Bool.or_eq_false_iff, Bool.and_eq_false_iff] at *; omega)]; rfl, by (repeat (first | assumption | exact Below.refl _ _ | refine bel_alloc ?_ _ | refine Below.drew ?_ | refine below_drewN' ?_ _ | (refine bel_set ?_ (by first | (simp; done) | (simp; omega)) _) | (refine bel_row ?_ (by first | (simp; done) | (simp; omega)) _)))⟩) | skip
        go_roundw
        case rel => exact ⟨k + 1, by omega, by go_num, any_take_succ' hlt hb (by simp only [badDeed, Bool.not_eq_true', Bool.not_eq_false', decide_eq_true_eq, decide_eq_false_iff_not, Bool.and_eq_true, Bool.or_eq_true, Bool.or_eq_false_iff, Bool.and_eq_false_iff] at *; omega), by (repeat (first | assumption | exact Below.refl _ _ | refine bel_alloc ?_ _ | refine Below.drew ?_ | refine below_drewN' ?_ _ | (refine bel_set ?_ (by first | (simp; done) | (simp; omega)) _) | (refine bel_row ?_ (by first | (simp; done) | (simp; omega)) _)))⟩
        case measure => simp [intOf]; omega
      · obtain rfl : k = l.length := by omega
        go_wp2
        go_ret2
        exact ⟨by rw [chkD_ok h12 hb]; rfl, hbel⟩
set_option maxHeartbeats 1000000 in
theorem deedsRight_any (A : Option Addr) (c : Nat) (l : List Deed) (w : World) (hl : l.length ≤ 9223372036854775807) (hA : RdDeed w A l) :
    Calls Try.prog 57 #[.slice A l.length c] w fun e w' => e = .returned (.tuple #[.int .i64 (chkD l).1, .int .i64 (chkD l).2]) ∧ Below w.heap.size w w' := by
  by_cases h12 : 60 < l.length
  · go_enter Try.func57, Try.ntmps57
    go_wp2
    go_ret2
    exact ⟨by rw [chkD_large h12]; rfl, Below.refl _ _⟩
  · go_enter Try.func57, Try.ntmps57
    go_wp2
    go_loopw [11] (fun i wr => ∃ k : Nat, k ≤ l.length ∧ i = .int .i64 k ∧ (l.take k).any badDeed = false ∧ Below w.heap.size w wr) (fun i _ => l.length - (intOf i).toNat)
    case atStart => exact ⟨0, by omega, rfl, by simp, Below.refl _ _⟩
    case round =>
      obtain ⟨k, hk, rfl, hb, hbel⟩ := hrel
      by_cases hlt : k < l.length
      · obtain ⟨b, o, rfl, -, hbs, c0, c1, c2⟩ := hA.at_ hbel k hlt
        go_wp2_with (go_at_call 23; refine (between_any _ _ _ _).mono ?_; rintro e w' ⟨rfl, rfl⟩)
        all_goals first | (go_ret2; exact ⟨by rw [chkD_bad h12 hlt hb (by simp only [badDeed, Bool.not_eq_true', Bool.not_eq_false', decide_eq_true_eq, decide_eq_false_iff_not, Bool.and_eq_true, Bool.or_eq_true, Bool.or_eq_false_iff, Bool.and_eq_false_iff] at *; omega)]; rfl, by (repeat (first | assumption | exact Below.refl _ _ | refine bel_alloc ?_ _ | refine Below.drew ?_ | refine below_drewN' ?_ _ | (refine bel_set ?_ (by first | (simp; done) | (simp; omega)) _) | (refine bel_row ?_ (by first | (simp; done) | (simp; omega)) _)))⟩) | skip
        go_roundw
        case rel => exact ⟨k + 1, by omega, by go_num, any_take_succ' hlt hb (by simp only [badDeed, Bool.not_eq_true', Bool.not_eq_false', decide_eq_true_eq, decide_eq_false_iff_not, Bool.and_eq_true, Bool.or_eq_true, Bool.or_eq_false_iff, Bool.and_eq_false_iff] at *; omega), by (repeat (first | assumption | exact Below.refl _ _ | refine bel_alloc ?_ _ | refine Below.drew ?_ | refine below_drewN' ?_ _ | (refine bel_set ?_ (by first | (simp; done) | (simp; omega)) _) | (refine bel_row ?_ (by first | (simp; done) | (simp; omega)) _)))⟩
        case measure => simp [intOf]; omega
      · obtain rfl : k = l.length := by omega
        go_wp2
        go_ret2
        exact ⟨by rw [chkD_ok h12 hb]; rfl, hbel⟩

end Go.Proofs.Ytppicbdaijiifaa
