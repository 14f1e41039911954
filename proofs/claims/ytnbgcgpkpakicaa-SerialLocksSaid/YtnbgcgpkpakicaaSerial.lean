/- serial.Check, Locks, can, others and the reference's DeedsRight, held, Legal: what each computes, for every list of deeds. -/
import Derived.Test.YtnbgcgpkpakicaaBetween
import Derived.Test.YtnbgcgpkpakicaaRead
import Derived.RegionTactic
import Derived.BigRegion
namespace Go.Proofs.Ytnbgcgpkpakicaa
open Go.RowKit

structure Deed where
  who : Int
  kind : Int
  item : Int
def Deed.enc (d : Deed) : List Value := [.int .i64 d.who, .int .i64 d.kind, .int .i64 d.item]
def RdDeed (w : World) (A : Option Addr) (l : List Deed) : Prop := RdE Deed.enc 3 w A l
theorem RdDeed.at_ {w wr : World} {A : Option Addr} {l : List Deed} (h : RdDeed w A l) (hb : Below w.heap.size w wr) (k : Nat) (hk : k < l.length) :
    ∃ b o, A = some ⟨b, o, none⟩ ∧ b < w.heap.size ∧ b < wr.heap.size ∧ wr.cell? ⟨b, o + k * 3, none⟩ = some (.int .i64 l[k].who) ∧ wr.cell? ⟨b, o + k * 3 + 1, none⟩ = some (.int .i64 l[k].kind) ∧ wr.cell? ⟨b, o + k * 3 + 2, none⟩ = some (.int .i64 l[k].item) := by
  obtain ⟨b, o, h1, h2, h3, h4⟩ := RdE.at_ h hb k hk
  exact ⟨b, o, h1, h2, h3, h4 0 _ rfl, h4 1 _ rfl, h4 2 _ rfl⟩

def badDeed (d : Deed) : Bool := decide (d.who < 0) || decide (5 < d.who) || decide (d.kind < 0) || decide (4 < d.kind) || decide (d.item < 0) || decide (5 < d.item)
def chkD (l : List Deed) : Int × Int := if 60 < l.length then (0, 2) else if l.findIdx badDeed < l.length then (l.findIdx badDeed, 3) else (0, 0)
theorem chkD_large {l : List Deed} (h : 60 < l.length) : chkD l = (0, 2) := by simp [chkD, h]
theorem chkD_bad {l : List Deed} (h : ¬ 60 < l.length) {k : Nat} (hk : k < l.length) (h0 : (l.take k).any badDeed = false) (hb : badDeed l[k] = true) : chkD l = ((k : Int), 3) := by
  have := findIdx_at hk h0 hb
  simp [chkD, h, this, hk]
theorem chkD_ok {l : List Deed} (h : ¬ 60 < l.length) (hb : (l.take l.length).any badDeed = false) : chkD l = (0, 0) := by
  have := findIdx_none hb
  simp [chkD, h, this]
theorem chkD_fine {l : List Deed} (h : (chkD l).2 = 0) : l.length ≤ 60 ∧ ∀ k (hk : k < l.length), 0 ≤ l[k].who ∧ l[k].who ≤ 5 ∧ 0 ≤ l[k].kind ∧ l[k].kind ≤ 4 ∧ 0 ≤ l[k].item ∧ l[k].item ≤ 5 := by
  unfold chkD at h
  by_cases h60 : 60 < l.length
  · simp [h60] at h
  · refine ⟨by omega, fun k hk => ?_⟩
    by_cases h3 : l.findIdx badDeed < l.length
    · simp [h60, h3] at h
    · have h4 : l.findIdx badDeed = l.length := by
        have := List.findIdx_le_length (p := badDeed) (xs := l)
        omega
      rw [List.findIdx_eq_length] at h4
      have := h4 l[k] (List.getElem_mem hk)
      simp only [badDeed, Bool.not_eq_true', Bool.not_eq_false', decide_eq_true_eq, decide_eq_false_iff_not, Bool.and_eq_true, Bool.or_eq_true, Bool.or_eq_false_iff, Bool.and_eq_false_iff] at this
      omega

set_option maxHeartbeats 1000000 in
theorem serialCheck_any (A : Option Addr) (c : Nat) (l : List Deed) (w : World) (hl : l.length ≤ 9223372036854775807) (hA : RdDeed w A l) :
    Calls Try.prog 48 #[.slice A l.length c] w fun e w' => e = .returned (.tuple #[.int .i64 (chkD l).1, .int .i64 (chkD l).2]) ∧ Below w.heap.size w w' := by
  by_cases h12 : 60 < l.length
  · go_enter Try.func48, Try.ntmps48
    go_wp2
    go_ret2
    exact ⟨by rw [chkD_large h12]; rfl, Below.refl _ _⟩
  · go_enter Try.func48, Try.ntmps48
    go_wp2
    go_loopw [11] (fun i wr => ∃ k : Nat, k ≤ l.length ∧ i = .int .i64 k ∧ (l.take k).any badDeed = false ∧ Below w.heap.size w wr) (fun i _ => l.length - (intOf i).toNat)
    case atStart => exact ⟨0, by omega, rfl, by simp, Below.refl _ _⟩
    case round =>
      obtain ⟨k, hk, rfl, hb, hbel⟩ := hrel
      by_cases hlt : k < l.length
      · obtain ⟨b, o, rfl, -, hbs, c0, c1, c2⟩ := hA.at_ hbel k hlt
        go_wp2
        all_goals first | (go_ret2; exact ⟨by rw [chkD_bad h12 hlt hb (by simp only [badDeed, Bool.not_eq_true', Bool.not_eq_false', decide_eq_true_eq, decide_eq_false_iff_not, Bool.and_eq_true, Bool.or_eq_true, Bool.or_eq_false_iff, Bool.and_eq_false_iff] at *; omega)]; rfl, by (repeat (first | assumption | exact Below.refl _ _ | refine bel_alloc ?_ _ | refine Below.drew ?_ | refine below_drewN' ?_ _ | (refine bel_set ?_ (by first | (simp; done) | (simp; omega)) _) | (refine bel_row ?_ (by first | (simp; done) | (simp; omega)) _)))⟩) | skip
        go_roundw
        case rel => exact ⟨k + 1, by omega, by go_num, any_take_succ' hlt hb (by simp only [badDeed, Bool.not_eq_true', Bool.not_eq_false', decide_eq_true_eq, decide_eq_false_iff_not, Bool.and_eq_true, Bool.or_eq_true, Bool.or_eq_false_iff, Bool.and_eq_false_iff] at *; omega), by (repeat (first | assumption | exact Below.refl _ _ | refine bel_alloc ?_ _ | refine Below.drew ?_ | refine below_drewN' ?_ _ | (refine bel_set ?_ (by first | (simp; done) | (simp; omega)) _) | (refine bel_row ?_ (by first | (simp; done) | (simp; omega)) _)))⟩
        case measure => simp [intOf]; omega
      · obtain rfl : k = l.length := by omega
        go_wp2
        go_ret2
        exact ⟨by rw [chkD_ok h12 hb]; rfl, hbel⟩
set_option maxHeartbeats 1000000 in
theorem deedsRight_any (A : Option Addr) (c : Nat) (l : List Deed) (w : World) (hl : l.length ≤ 9223372036854775807) (hA : RdDeed w A l) :
    Calls Try.prog 19 #[.slice A l.length c] w fun e w' => e = .returned (.tuple #[.int .i64 (chkD l).1, .int .i64 (chkD l).2]) ∧ Below w.heap.size w w' := by
  by_cases h12 : 60 < l.length
  · go_enter Try.func19, Try.ntmps19
    go_wp2
    go_ret2
    exact ⟨by rw [chkD_large h12]; rfl, Below.refl _ _⟩
  · go_enter Try.func19, Try.ntmps19
    go_wp2
    go_loopw [11] (fun i wr => ∃ k : Nat, k ≤ l.length ∧ i = .int .i64 k ∧ (l.take k).any badDeed = false ∧ Below w.heap.size w wr) (fun i _ => l.length - (intOf i).toNat)
    case atStart => exact ⟨0, by omega, rfl, by simp, Below.refl _ _⟩
    case round =>
      obtain ⟨k, hk, rfl, hb, hbel⟩ := hrel
      by_cases hlt : k < l.length
      · obtain ⟨b, o, rfl, -, hbs, c0, c1, c2⟩ := hA.at_ hbel k hlt
        go_wp2_with (go_at_call 16; refine (between_any _ _ _ _).mono ?_; rintro e w' ⟨rfl, rfl⟩)
        all_goals first | (go_ret2; exact ⟨by rw [chkD_bad h12 hlt hb (by simp only [badDeed, Bool.not_eq_true', Bool.not_eq_false', decide_eq_true_eq, decide_eq_false_iff_not, Bool.and_eq_true, Bool.or_eq_true, Bool.or_eq_false_iff, Bool.and_eq_false_iff] at *; omega)]; rfl, by (repeat (first | assumption | exact Below.refl _ _ | refine bel_alloc ?_ _ | refine Below.drew ?_ | refine below_drewN' ?_ _ | (refine bel_set ?_ (by first | (simp; done) | (simp; omega)) _) | (refine bel_row ?_ (by first | (simp; done) | (simp; omega)) _)))⟩) | skip
        go_roundw
        case rel => exact ⟨k + 1, by omega, by go_num, any_take_succ' hlt hb (by simp only [badDeed, Bool.not_eq_true', Bool.not_eq_false', decide_eq_true_eq, decide_eq_false_iff_not, Bool.and_eq_true, Bool.or_eq_true, Bool.or_eq_false_iff, Bool.and_eq_false_iff] at *; omega), by (repeat (first | assumption | exact Below.refl _ _ | refine bel_alloc ?_ _ | refine Below.drew ?_ | refine below_drewN' ?_ _ | (refine bel_set ?_ (by first | (simp; done) | (simp; omega)) _) | (refine bel_row ?_ (by first | (simp; done) | (simp; omega)) _)))⟩
        case measure => simp [intOf]; omega
      · obtain rfl : k = l.length := by omega
        go_wp2
        go_ret2
        exact ⟨by rw [chkD_ok h12 hb]; rfl, hbel⟩

/-- the most of the others', up to so many -/
def othersTo (f : Nat → Int) (who item : Nat) : Nat → Int
  | 0 => 0
  | k + 1 => if k = who then othersTo f who item k else if othersTo f who item k < f (k * 6 + item) then f (k * 6 + item) else othersTo f who item k

set_option maxHeartbeats 1000000 in
theorem others_any (g t : Nat) (f : Nat → Int) (who item : Nat) (w : World) (hg : Blk w g t (ints f 36)) (hi : item < 6) :
    Calls Try.prog 69 #[.pointer (some ⟨g, 0, none⟩), .int .i64 who, .int .i64 item] w fun e w' => e = .returned (.int .i64 (othersTo f who item 6)) ∧ Below w.heap.size w w' := by
  have hi' : (item : Int) < 6 := by omega
  go_enter Try.func69, Try.ntmps69
  go_wp2
  go_loop [7, 9] (fun m i => ∃ k : Nat, k ≤ 6 ∧ i = .int .i64 k ∧ m = .int .i64 (othersTo f who item k)) (fun _ i => 6 - (intOf i).toNat)
  case atStart => exact ⟨0, by omega, rfl, rfl⟩
  case round =>
    obtain ⟨k, hk, rfl, rfl⟩ := hrel
    by_cases hlt : k < 6
    · have a1 := (hg.cell (k * 6 + item)).trans (ints_at f 36 _ (by omega))
      by_cases hw : k = who
      · subst hw
        have e : othersTo f k item (k + 1) = othersTo f k item k := by simp [othersTo]
        have E := Lib.hid e; clear e
        go_wp2
        go_round
        case rel => exact ⟨k + 1, by omega, by go_num, by rw [E.out]⟩
        case measure => simp [intOf]; omega
      · have e : othersTo f who item (k + 1) = if othersTo f who item k < f (k * 6 + item) then f (k * 6 + item) else othersTo f who item k := by simp [othersTo, hw]
        have E := Lib.hid e; clear e
        have hw' : ((k : Int) != (who : Int)) = true := by simp; omega
        clear hw
        go_wp2
        go_round
        case rel => exact ⟨k + 1, by omega, by go_num, by rw [E.out]⟩
        case measure => simp [intOf]; omega
    · obtain rfl : k = 6 := by omega
      go_wp2
      go_ret
      exact ⟨rfl, Below.refl _ _⟩

def canV (own oth kind : Int) : Bool :=
  if kind = 0 ∨ kind = 4 then own != 0
  else if kind = 1 then own == 3
  else if kind = 2 then own == 0 && oth != 3
  else own != 3 && oth == 0
def canF (f : Nat → Int) (who item : Nat) (kind : Int) : Bool := canV (f (who * 6 + item)) (othersTo f who item 6) kind

set_option maxRecDepth 20000 in
set_option maxHeartbeats 2000000 in
theorem can_any (g t : Nat) (f : Nat → Int) (who item : Nat) (kind : Int) (w : World) (hg : Blk w g t (ints f 36)) (hw : who < 6) (hi : item < 6) :
    Calls Try.prog 49 #[.pointer (some ⟨g, 0, none⟩), .agg #[.int .i64 who, .int .i64 kind, .int .i64 item]] w fun e w' => e = .returned (.bool (canF f who item kind)) ∧ Below w.heap.size w w' := by
  have hi' : (item : Int) < 6 := by omega
  have hw' : (who : Int) < 6 := by omega
  have a1 := (hg.cell (who * 6 + item)).trans (ints_at f 36 _ (by omega))
  have hl := hg.lt
  have hl' : g < w.heap.size + 1 := by omega
  go_enter Try.func49, Try.ntmps49
  go_wp2
  (refine qb_region (by kernel_rfl) (by kernel_rfl) ?_)
  repeat (first | (refine qb_skip rfl ?_; (refine qb_norm (fun K hK => ?_); go_simp; refine hK _ ?_; clear hK K)) | (refine qb_val rfl ?_; apply Exists.intro; refine ⟨?_, ?_⟩; (focus (intro w' hw'; have hcl := fun g o (h : g < _) => cell_below hw' (g := g) h o; have hrw := fun g (h : g < _) => rowOf_below hw' (g := g) h; go_simp; first | done | rfl)); (refine qb_norm (fun K hK => ?_); go_simp; refine hK _ ?_; clear hK K)) | (refine qb_none rfl ?_ ?_; (focus (intro w' hw'; have hcl := fun g o (h : g < _) => cell_below hw' (g := g) h o; have hrw := fun g (h : g < _) => rowOf_below hw' (g := g) h; go_simp; first | done | rfl)); (refine qb_norm (fun K hK => ?_); go_simp; refine hK _ ?_; clear hK K)))
  (refine qb_call rfl ?_; apply Exists.intro; apply Exists.intro; apply Exists.intro; refine ⟨?_, ?_, ?_⟩; (focus (intro w'; go_simp; first | done | (exact ⟨rfl, rfl⟩) | rfl)); (focus (intro w' hw'; exact others_any g t f who item _ ((hg.alloc _).below hw' (by simp; omega)) hi)); (refine qb_norm (fun K hK => ?_); go_simp; refine hK _ ?_; clear hK K))
  repeat (first | (refine qb_skip rfl ?_; (refine qb_norm (fun K hK => ?_); go_simp; refine hK _ ?_; clear hK K)) | (refine qb_val rfl ?_; apply Exists.intro; refine ⟨?_, ?_⟩; (focus (intro w' hw'; have hcl := fun g o (h : g < _) => cell_below hw' (g := g) h o; have hrw := fun g (h : g < _) => rowOf_below hw' (g := g) h; go_simp; first | done | rfl)); (refine qb_norm (fun K hK => ?_); go_simp; refine hK _ ?_; clear hK K)) | (refine qb_none rfl ?_ ?_; (focus (intro w' hw'; have hcl := fun g o (h : g < _) => cell_below hw' (g := g) h o; have hrw := fun g (h : g < _) => rowOf_below hw' (g := g) h; go_simp; first | done | rfl)); (refine qb_norm (fun K hK => ?_); go_simp; refine hK _ ?_; clear hK K)))
  (refine qb_nil ?_; intro w5 hb5)
  have Hb := Lib.hid (bel_trans (bel_alloc (Below.refl _ w) _) hb5)
  have hbx := ((Blk.new w 48 #[.int .i64 who, .int .i64 kind, .int .i64 item]).carry hb5)
  have x1 := hbx.cell 1
  simp only [List.getElem?_toArray, List.getElem?_cons_succ, List.getElem?_cons_zero] at x1
  clear hb5 a1 hl hl' hg hi' hw'
  go_wp2_with (fail)
  all_goals
    go_ret
    exact ⟨ret_bool (by simp only [canF, canV]; (repeat' split) <;> simp_all), Hb.out⟩

end Go.Proofs.Ytnbgcgpkpakicaa
