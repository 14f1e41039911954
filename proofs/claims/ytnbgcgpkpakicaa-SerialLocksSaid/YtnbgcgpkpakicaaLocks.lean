/- serial.Locks: what it computes, for every list of deeds. -/
import Derived.Test.YtnbgcgpkpakicaaSerial
namespace Go.Proofs.Ytnbgcgpkpakicaa
open Go.RowKit

structure LS where
  f : Nat → Int
  rel : Nat → Bool
  res : Bool
  pha : Bool
def lstep (s : LS) (d : Deed) : LS :=
  let i := d.who.toNat * 6 + d.item.toNat
  let r := s.res && canF s.f d.who.toNat d.item.toNat d.kind
  if d.kind = 2 ∨ d.kind = 3 then ⟨upz s.f i (if s.f i < d.kind then d.kind else s.f i), s.rel, r, s.pha && !s.rel d.who.toNat⟩
  else if d.kind = 4 then ⟨upz s.f i 0, upz s.rel d.who.toNat true, r, s.pha⟩
  else ⟨s.f, s.rel, r, s.pha⟩
theorem lstep_01 (f : Nat → Int) (rel : Nat → Bool) (res pha : Bool) (wn it : Nat) (kd : Int) (h : kd = 0 ∨ kd = 1) : lstep ⟨f, rel, res, pha⟩ ⟨wn, kd, it⟩ = ⟨f, rel, res && canF f wn it kd, pha⟩ := by
  have h1 : ¬ (kd = 2 ∨ kd = 3) := by omega
  have h2 : ¬ kd = 4 := by omega
  simp [lstep, h1, h2]
theorem lstep_23 (f : Nat → Int) (rel : Nat → Bool) (res pha : Bool) (wn it : Nat) (kd : Int) (h : kd = 2 ∨ kd = 3) :
    lstep ⟨f, rel, res, pha⟩ ⟨wn, kd, it⟩ = ⟨upz f (wn * 6 + it) (if f (wn * 6 + it) < kd then kd else f (wn * 6 + it)), rel, res && canF f wn it kd, pha && !rel wn⟩ := by
  simp [lstep, h]
theorem lstep_4 (f : Nat → Int) (rel : Nat → Bool) (res pha : Bool) (wn it : Nat) : lstep ⟨f, rel, res, pha⟩ ⟨wn, 4, it⟩ = ⟨upz f (wn * 6 + it) 0, upz rel wn true, res && canF f wn it 4, pha⟩ := by
  simp [lstep]
def lfold (l : List Deed) : LS := l.foldl lstep ⟨fun _ => 0, fun _ => false, true, true⟩

set_option maxRecDepth 20000 in
set_option maxHeartbeats 8000000 in
theorem locks_ok (A : Option Addr) (c : Nat) (l : List Deed) (w : World) (hl : l.length ≤ 9223372036854775807) (hA : RdDeed w A l) (h0 : (chkD l).2 = 0) :
    Calls Try.prog 18 #[.slice A l.length c] w fun e w' => e = .returned (.tuple #[.bool (lfold l).res, .bool (lfold l).pha, .int .i64 0]) ∧ Below w.heap.size w w' := by
  have hfine := Lib.hid (chkD_fine h0)
  have hne : ((chkD l).2 != 0) = false := by simp [h0]
  clear h0
  go_enter Try.func18, Try.ntmps18
  go_wp2_with (go_at_call 48; refine (serialCheck_any _ _ _ _ (by omega) hA).mono ?_; rintro e w1 ⟨rfl, hb1⟩)
  go_loopw [9, 10, 23] (fun re ph i wr => ∃ k : Nat, k ≤ l.length ∧ i = .int .i64 k ∧ re = .bool (lfold (l.take k)).res ∧ ph = .bool (lfold (l.take k)).pha ∧ Below w.heap.size w wr ∧ Blk wr w1.heap.size 96 (ints (lfold (l.take k)).f 36) ∧ Blk wr (w1.heap.size + 1) 97 (bools (lfold (l.take k)).rel 6)) (fun _ _ i _ => l.length - (intOf i).toNat)
  case atStart => exact ⟨0, by omega, rfl, rfl, rfl, by (repeat (first | assumption | exact Below.refl _ _ | refine bel_alloc ?_ _ | refine Below.drew ?_ | refine below_drewN' ?_ _ | (refine bel_set ?_ (by first | (simp; done) | (simp; omega)) _) | (refine bel_row ?_ (by first | (simp; done) | (simp; omega)) _))), (Blk.new w1 _ _).alloc _, Blk.new' _ _ _ _ (by simp)⟩
  case round =>
    obtain ⟨k, hk, rfl, rfl, rfl, hbel, ht, hr⟩ := hrel
    by_cases hlt : k < l.length
    · obtain ⟨b, o, rfl, hb0, hbs, c0, c1, c2⟩ := hA.at_ hbel k hlt
      have hd : ∃ wn it : Nat, ∃ kd : Int, l[k] = ⟨wn, kd, it⟩ ∧ wn < 6 ∧ it < 6 ∧ 0 ≤ kd ∧ kd ≤ 4 := by
        have h := hfine.out.2 k hlt
        refine ⟨l[k].who.toNat, l[k].item.toNat, l[k].kind, ?_, by omega, by omega, by omega, by omega⟩
        rw [Int.toNat_of_nonneg (by omega), Int.toNat_of_nonneg (by omega)]
      obtain ⟨wn, it, kd, hd, hwn, hit, hk0, hk4⟩ := hd
      rw [hd] at c0 c1 c2
      dsimp only at c0 c1 c2
      have hf : lfold (l.take (k + 1)) = lstep (lfold (l.take k)) l[k] := foldl_take_succ lstep _ l k hlt
      rw [hd] at hf
      have Hf0 := Lib.hid hf; clear hf hd
      generalize lfold (l.take k) = s at *
      obtain ⟨f, rel, res, pha⟩ := s
      dsimp only at ht hr ⊢
      have a1 := (ht.cell (wn * 6 + it)).trans (ints_at f 36 _ (by omega))
      have a2 := ht.frozen (wn * 6 + it)
      have a3 := (hr.cell wn).trans (bools_at rel 6 _ (by omega))
      have a4 := hr.frozen wn
      have a5 := ht.lt
      have a6 := hr.lt
      have hsz := hb1.size
      have hwi : (wn : Int) < 6 := by omega
      have hii : (it : Int) < 6 := by omega
      have hkd : kd = 0 ∨ kd = 1 ∨ kd = 2 ∨ kd = 3 ∨ kd = 4 := by omega
      rcases hkd with rfl | rfl | rfl | rfl | rfl
      · have Hf := Lib.hid (Hf0.out.trans (lstep_01 _ _ _ _ _ _ _ (by omega))); clear Hf0
        cases res
        · go_wp2_with (fail)
          go_roundw
          case rel => exact ⟨k + 1, by omega, by go_num, (congrArg (fun s : LS => Value.bool s.res) Hf.out).symm, (congrArg (fun s : LS => Value.bool s.pha) Hf.out).symm, by (repeat (first | assumption | exact Below.refl _ _ | refine bel_alloc ?_ _ | refine Below.drew ?_ | refine below_drewN' ?_ _ | (refine bel_set ?_ (by first | (simp; done) | (simp; omega)) _) | (refine bel_row ?_ (by first | (simp; done) | (simp; omega)) _))), by rw [Hf.out]; exact ht.alloc _, by rw [Hf.out]; exact hr.alloc _⟩
          case measure => simp [intOf]; omega
        · go_wp2_with (go_at_call 49; refine (can_any _ _ f wn it _ _ (ht.alloc _) hwn hit).mono ?_; rintro e w2 ⟨rfl, hb2⟩; have hbx := (Blk.new wr _ _).carry hb2; have ht2 := (ht.alloc _).carry hb2; have hr2 := (hr.alloc _).carry hb2; have hB2 := bel_trans (bel_alloc hbel _) hb2; have x0 := hbx.cell 0; have x1 := hbx.cell 1; have x2 := hbx.cell 2; simp only [List.getElem?_toArray, List.getElem?_cons_succ, List.getElem?_cons_zero] at x0 x1 x2; have y1 := (ht2.cell (wn * 6 + it)).trans (ints_at f 36 _ (by omega)); have y2 := ht2.frozen (wn * 6 + it); have y3 := (hr2.cell wn).trans (bools_at rel 6 _ (by omega)); have y4 := hr2.frozen wn; have y5 := ht2.lt; have y6 := hr2.lt; have y7 := hbx.lt)
          go_roundw
          case rel => exact ⟨k + 1, by omega, by go_num, (congrArg (fun s : LS => Value.bool s.res) Hf.out).symm, (congrArg (fun s : LS => Value.bool s.pha) Hf.out).symm, by (repeat (first | assumption | exact Below.refl _ _ | refine bel_alloc ?_ _ | refine Below.drew ?_ | refine below_drewN' ?_ _ | (refine bel_set ?_ (by first | (simp; done) | (simp; omega)) _) | (refine bel_row ?_ (by first | (simp; done) | (simp; omega)) _))), by rw [Hf.out]; exact ht2, by rw [Hf.out]; exact hr2⟩
          case measure => simp [intOf]; omega
      · have Hf := Lib.hid (Hf0.out.trans (lstep_01 _ _ _ _ _ _ _ (by omega))); clear Hf0
        cases res
        · go_wp2_with (fail)
          go_roundw
          case rel => exact ⟨k + 1, by omega, by go_num, (congrArg (fun s : LS => Value.bool s.res) Hf.out).symm, (congrArg (fun s : LS => Value.bool s.pha) Hf.out).symm, by (repeat (first | assumption | exact Below.refl _ _ | refine bel_alloc ?_ _ | refine Below.drew ?_ | refine below_drewN' ?_ _ | (refine bel_set ?_ (by first | (simp; done) | (simp; omega)) _) | (refine bel_row ?_ (by first | (simp; done) | (simp; omega)) _))), by rw [Hf.out]; exact ht.alloc _, by rw [Hf.out]; exact hr.alloc _⟩
          case measure => simp [intOf]; omega
        · go_wp2_with (go_at_call 49; refine (can_any _ _ f wn it _ _ (ht.alloc _) hwn hit).mono ?_; rintro e w2 ⟨rfl, hb2⟩; have hbx := (Blk.new wr _ _).carry hb2; have ht2 := (ht.alloc _).carry hb2; have hr2 := (hr.alloc _).carry hb2; have hB2 := bel_trans (bel_alloc hbel _) hb2; have x0 := hbx.cell 0; have x1 := hbx.cell 1; have x2 := hbx.cell 2; simp only [List.getElem?_toArray, List.getElem?_cons_succ, List.getElem?_cons_zero] at x0 x1 x2; have y1 := (ht2.cell (wn * 6 + it)).trans (ints_at f 36 _ (by omega)); have y2 := ht2.frozen (wn * 6 + it); have y3 := (hr2.cell wn).trans (bools_at rel 6 _ (by omega)); have y4 := hr2.frozen wn; have y5 := ht2.lt; have y6 := hr2.lt; have y7 := hbx.lt)
          go_roundw
          case rel => exact ⟨k + 1, by omega, by go_num, (congrArg (fun s : LS => Value.bool s.res) Hf.out).symm, (congrArg (fun s : LS => Value.bool s.pha) Hf.out).symm, by (repeat (first | assumption | exact Below.refl _ _ | refine bel_alloc ?_ _ | refine Below.drew ?_ | refine below_drewN' ?_ _ | (refine bel_set ?_ (by first | (simp; done) | (simp; omega)) _) | (refine bel_row ?_ (by first | (simp; done) | (simp; omega)) _))), by rw [Hf.out]; exact ht2, by rw [Hf.out]; exact hr2⟩
          case measure => simp [intOf]; omega
      · have Hf := Lib.hid (Hf0.out.trans (lstep_23 _ _ _ _ _ _ _ (by omega))); clear Hf0
        cases res <;> cases pha
        · go_wp2_with (fail)
          go_region
          go_wp2_with (fail)
          go_roundw
          case rel => exact ⟨k + 1, by omega, by go_num, (congrArg (fun s : LS => Value.bool s.res) Hf.out).symm, (congrArg (fun s : LS => Value.bool s.pha) Hf.out).symm, by (repeat (first | assumption | exact Below.refl _ _ | refine bel_alloc ?_ _ | refine Below.drew ?_ | refine below_drewN' ?_ _ | (refine bel_set ?_ (by first | (simp; done) | (simp; omega)) _) | (refine bel_row ?_ (by first | (simp; done) | (simp; omega)) _))), by rw [Hf.out]; exact (ints_set _ _ _ _) ▸ (ht.set_ _ _).alloc _, by rw [Hf.out]; exact (hr.far (by simp) _).alloc _⟩
          case measure => simp [intOf]; omega
        · go_wp2_with (fail)
          go_region
          go_wp2_with (fail)
          go_roundw
          case rel => exact ⟨k + 1, by omega, by go_num, (congrArg (fun s : LS => Value.bool s.res) Hf.out).symm, (congrArg (fun s : LS => Value.bool s.pha) Hf.out).symm, by (repeat (first | assumption | exact Below.refl _ _ | refine bel_alloc ?_ _ | refine Below.drew ?_ | refine below_drewN' ?_ _ | (refine bel_set ?_ (by first | (simp; done) | (simp; omega)) _) | (refine bel_row ?_ (by first | (simp; done) | (simp; omega)) _))), by rw [Hf.out]; exact (ints_set _ _ _ _) ▸ (ht.set_ _ _).alloc _, by rw [Hf.out]; exact (hr.far (by simp) _).alloc _⟩
          case measure => simp [intOf]; omega
        · go_wp2_with (go_at_call 49; refine (can_any _ _ f wn it _ _ (ht.alloc _) hwn hit).mono ?_; rintro e w2 ⟨rfl, hb2⟩; have hbx := (Blk.new wr _ _).carry hb2; have ht2 := (ht.alloc _).carry hb2; have hr2 := (hr.alloc _).carry hb2; have hB2 := bel_trans (bel_alloc hbel _) hb2; have x0 := hbx.cell 0; have x1 := hbx.cell 1; have x2 := hbx.cell 2; simp only [List.getElem?_toArray, List.getElem?_cons_succ, List.getElem?_cons_zero] at x0 x1 x2; have y1 := (ht2.cell (wn * 6 + it)).trans (ints_at f 36 _ (by omega)); have y2 := ht2.frozen (wn * 6 + it); have y3 := (hr2.cell wn).trans (bools_at rel 6 _ (by omega)); have y4 := hr2.frozen wn; have y5 := ht2.lt; have y6 := hr2.lt; have y7 := hbx.lt)
          go_region
          go_wp2_with (fail)
          go_roundw
          case rel => exact ⟨k + 1, by omega, by go_num, (congrArg (fun s : LS => Value.bool s.res) Hf.out).symm, (congrArg (fun s : LS => Value.bool s.pha) Hf.out).symm, by (repeat (first | assumption | exact Below.refl _ _ | refine bel_alloc ?_ _ | refine Below.drew ?_ | refine below_drewN' ?_ _ | (refine bel_set ?_ (by first | (simp; done) | (simp; omega)) _) | (refine bel_row ?_ (by first | (simp; done) | (simp; omega)) _))), by rw [Hf.out]; exact (ints_set _ _ _ _) ▸ ht2.set_ _ _, by rw [Hf.out]; exact hr2.far (by simp) _⟩
          case measure => simp [intOf]; omega
        · go_wp2_with (go_at_call 49; refine (can_any _ _ f wn it _ _ (ht.alloc _) hwn hit).mono ?_; rintro e w2 ⟨rfl, hb2⟩; have hbx := (Blk.new wr _ _).carry hb2; have ht2 := (ht.alloc _).carry hb2; have hr2 := (hr.alloc _).carry hb2; have hB2 := bel_trans (bel_alloc hbel _) hb2; have x0 := hbx.cell 0; have x1 := hbx.cell 1; have x2 := hbx.cell 2; simp only [List.getElem?_toArray, List.getElem?_cons_succ, List.getElem?_cons_zero] at x0 x1 x2; have y1 := (ht2.cell (wn * 6 + it)).trans (ints_at f 36 _ (by omega)); have y2 := ht2.frozen (wn * 6 + it); have y3 := (hr2.cell wn).trans (bools_at rel 6 _ (by omega)); have y4 := hr2.frozen wn; have y5 := ht2.lt; have y6 := hr2.lt; have y7 := hbx.lt)
          go_region
          go_wp2_with (fail)
          go_roundw
          case rel => exact ⟨k + 1, by omega, by go_num, (congrArg (fun s : LS => Value.bool s.res) Hf.out).symm, (congrArg (fun s : LS => Value.bool s.pha) Hf.out).symm, by (repeat (first | assumption | exact Below.refl _ _ | refine bel_alloc ?_ _ | refine Below.drew ?_ | refine below_drewN' ?_ _ | (refine bel_set ?_ (by first | (simp; done) | (simp; omega)) _) | (refine bel_row ?_ (by first | (simp; done) | (simp; omega)) _))), by rw [Hf.out]; exact (ints_set _ _ _ _) ▸ ht2.set_ _ _, by rw [Hf.out]; exact hr2.far (by simp) _⟩
          case measure => simp [intOf]; omega
      · have Hf := Lib.hid (Hf0.out.trans (lstep_23 _ _ _ _ _ _ _ (by omega))); clear Hf0
        cases res <;> cases pha
        · go_wp2_with (fail)
          go_region
          go_wp2_with (fail)
          go_roundw
          case rel => exact ⟨k + 1, by omega, by go_num, (congrArg (fun s : LS => Value.bool s.res) Hf.out).symm, (congrArg (fun s : LS => Value.bool s.pha) Hf.out).symm, by (repeat (first | assumption | exact Below.refl _ _ | refine bel_alloc ?_ _ | refine Below.drew ?_ | refine below_drewN' ?_ _ | (refine bel_set ?_ (by first | (simp; done) | (simp; omega)) _) | (refine bel_row ?_ (by first | (simp; done) | (simp; omega)) _))), by rw [Hf.out]; exact (ints_set _ _ _ _) ▸ (ht.set_ _ _).alloc _, by rw [Hf.out]; exact (hr.far (by simp) _).alloc _⟩
          case measure => simp [intOf]; omega
        · go_wp2_with (fail)
          go_region
          go_wp2_with (fail)
          go_roundw
          case rel => exact ⟨k + 1, by omega, by go_num, (congrArg (fun s : LS => Value.bool s.res) Hf.out).symm, (congrArg (fun s : LS => Value.bool s.pha) Hf.out).symm, by (repeat (first | assumption | exact Below.refl _ _ | refine bel_alloc ?_ _ | refine Below.drew ?_ | refine below_drewN' ?_ _ | (refine bel_set ?_ (by first | (simp; done) | (simp; omega)) _) | (refine bel_row ?_ (by first | (simp; done) | (simp; omega)) _))), by rw [Hf.out]; exact (ints_set _ _ _ _) ▸ (ht.set_ _ _).alloc _, by rw [Hf.out]; exact (hr.far (by simp) _).alloc _⟩
          case measure => simp [intOf]; omega
        · go_wp2_with (go_at_call 49; refine (can_any _ _ f wn it _ _ (ht.alloc _) hwn hit).mono ?_; rintro e w2 ⟨rfl, hb2⟩; have hbx := (Blk.new wr _ _).carry hb2; have ht2 := (ht.alloc _).carry hb2; have hr2 := (hr.alloc _).carry hb2; have hB2 := bel_trans (bel_alloc hbel _) hb2; have x0 := hbx.cell 0; have x1 := hbx.cell 1; have x2 := hbx.cell 2; simp only [List.getElem?_toArray, List.getElem?_cons_succ, List.getElem?_cons_zero] at x0 x1 x2; have y1 := (ht2.cell (wn * 6 + it)).trans (ints_at f 36 _ (by omega)); have y2 := ht2.frozen (wn * 6 + it); have y3 := (hr2.cell wn).trans (bools_at rel 6 _ (by omega)); have y4 := hr2.frozen wn; have y5 := ht2.lt; have y6 := hr2.lt; have y7 := hbx.lt)
          go_region
          go_wp2_with (fail)
          go_roundw
          case rel => exact ⟨k + 1, by omega, by go_num, (congrArg (fun s : LS => Value.bool s.res) Hf.out).symm, (congrArg (fun s : LS => Value.bool s.pha) Hf.out).symm, by (repeat (first | assumption | exact Below.refl _ _ | refine bel_alloc ?_ _ | refine Below.drew ?_ | refine below_drewN' ?_ _ | (refine bel_set ?_ (by first | (simp; done) | (simp; omega)) _) | (refine bel_row ?_ (by first | (simp; done) | (simp; omega)) _))), by rw [Hf.out]; exact (ints_set _ _ _ _) ▸ ht2.set_ _ _, by rw [Hf.out]; exact hr2.far (by simp) _⟩
          case measure => simp [intOf]; omega
        · go_wp2_with (go_at_call 49; refine (can_any _ _ f wn it _ _ (ht.alloc _) hwn hit).mono ?_; rintro e w2 ⟨rfl, hb2⟩; have hbx := (Blk.new wr _ _).carry hb2; have ht2 := (ht.alloc _).carry hb2; have hr2 := (hr.alloc _).carry hb2; have hB2 := bel_trans (bel_alloc hbel _) hb2; have x0 := hbx.cell 0; have x1 := hbx.cell 1; have x2 := hbx.cell 2; simp only [List.getElem?_toArray, List.getElem?_cons_succ, List.getElem?_cons_zero] at x0 x1 x2; have y1 := (ht2.cell (wn * 6 + it)).trans (ints_at f 36 _ (by omega)); have y2 := ht2.frozen (wn * 6 + it); have y3 := (hr2.cell wn).trans (bools_at rel 6 _ (by omega)); have y4 := hr2.frozen wn; have y5 := ht2.lt; have y6 := hr2.lt; have y7 := hbx.lt)
          go_region
          go_wp2_with (fail)
          go_roundw
          case rel => exact ⟨k + 1, by omega, by go_num, (congrArg (fun s : LS => Value.bool s.res) Hf.out).symm, (congrArg (fun s : LS => Value.bool s.pha) Hf.out).symm, by (repeat (first | assumption | exact Below.refl _ _ | refine bel_alloc ?_ _ | refine Below.drew ?_ | refine below_drewN' ?_ _ | (refine bel_set ?_ (by first | (simp; done) | (simp; omega)) _) | (refine bel_row ?_ (by first | (simp; done) | (simp; omega)) _))), by rw [Hf.out]; exact (ints_set _ _ _ _) ▸ ht2.set_ _ _, by rw [Hf.out]; exact hr2.far (by simp) _⟩
          case measure => simp [intOf]; omega
      · have Hf := Lib.hid (Hf0.out.trans (lstep_4 _ _ _ _ _ _)); clear Hf0
        cases res
        · go_wp2_with (fail)
          go_region
          go_wp2_with (fail)
          go_roundw
          case rel => exact ⟨k + 1, by omega, by go_num, (congrArg (fun s : LS => Value.bool s.res) Hf.out).symm, (congrArg (fun s : LS => Value.bool s.pha) Hf.out).symm, by (repeat (first | assumption | exact Below.refl _ _ | refine bel_alloc ?_ _ | refine Below.drew ?_ | refine below_drewN' ?_ _ | (refine bel_set ?_ (by first | (simp; done) | (simp; omega)) _) | (refine bel_row ?_ (by first | (simp; done) | (simp; omega)) _))), by rw [Hf.out]; exact (ints_set _ _ _ _) ▸ ((ht.far (by simp) _).set_ _ _).alloc _, by rw [Hf.out]; exact (bools_set _ _ _ _) ▸ ((hr.set_ _ _).far (by simp) _).alloc _⟩
          case measure => simp [intOf]; omega
        · go_wp2_with (go_at_call 49; refine (can_any _ _ f wn it _ _ (ht.alloc _) hwn hit).mono ?_; rintro e w2 ⟨rfl, hb2⟩; have hbx := (Blk.new wr _ _).carry hb2; have ht2 := (ht.alloc _).carry hb2; have hr2 := (hr.alloc _).carry hb2; have hB2 := bel_trans (bel_alloc hbel _) hb2; have x0 := hbx.cell 0; have x1 := hbx.cell 1; have x2 := hbx.cell 2; simp only [List.getElem?_toArray, List.getElem?_cons_succ, List.getElem?_cons_zero] at x0 x1 x2; have y1 := (ht2.cell (wn * 6 + it)).trans (ints_at f 36 _ (by omega)); have y2 := ht2.frozen (wn * 6 + it); have y3 := (hr2.cell wn).trans (bools_at rel 6 _ (by omega)); have y4 := hr2.frozen wn; have y5 := ht2.lt; have y6 := hr2.lt; have y7 := hbx.lt)
          go_region
          go_wp2_with (fail)
          go_roundw
          case rel => exact ⟨k + 1, by omega, by go_num, (congrArg (fun s : LS => Value.bool s.res) Hf.out).symm, (congrArg (fun s : LS => Value.bool s.pha) Hf.out).symm, by (repeat (first | assumption | exact Below.refl _ _ | refine bel_alloc ?_ _ | refine Below.drew ?_ | refine below_drewN' ?_ _ | (refine bel_set ?_ (by first | (simp; done) | (simp; omega)) _) | (refine bel_row ?_ (by first | (simp; done) | (simp; omega)) _))), by rw [Hf.out]; exact (ints_set _ _ _ _) ▸ (ht2.far (by simp) _).set_ _ _, by rw [Hf.out]; exact (bools_set _ _ _ _) ▸ (hr2.set_ _ _).far (by simp) _⟩
          case measure => simp [intOf]; omega
    · obtain rfl : k = l.length := by omega
      rw [List.take_length]
      go_wp2_with (fail)
      go_ret3
      exact ⟨rfl, by (repeat (first | assumption | exact Below.refl _ _ | refine bel_alloc ?_ _ | refine Below.drew ?_ | refine below_drewN' ?_ _ | (refine bel_set ?_ (by first | (simp; done) | (simp; omega)) _) | (refine bel_row ?_ (by first | (simp; done) | (simp; omega)) _)))⟩
end Go.Proofs.Ytnbgcgpkpakicaa
