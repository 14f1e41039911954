/- The reference's held and Legal: what each computes, for every list of deeds. -/
import Derived.Test.YtnbgcgpkpakicaaSerial
namespace Go.Proofs.Ytnbgcgpkpakicaa
open Go.RowKit

def heldStep (who item : Int) (n : Int) (d : Deed) : Int :=
  if d.who = who ∧ d.item = item then (if d.kind = 2 then 1 else if d.kind = 3 then 2 else if d.kind = 4 then 0 else n) else n
def heldF (l : List Deed) (who item : Int) : Int := l.foldl (heldStep who item) 0

set_option maxHeartbeats 2000000 in
theorem held_any (A : Option Addr) (c : Nat) (l : List Deed) (who item : Int) (w : World) (hl : l.length ≤ 9223372036854775807) (hA : RdDeed w A l) :
    Calls Try.prog 50 #[.slice A l.length c, .int .i64 who, .int .i64 item] w fun e w' => e = .returned (.int .i64 (heldF l who item)) ∧ Below w.heap.size w w' := by
  go_enter Try.func50, Try.ntmps50
  go_wp2
  go_loopw [7, 12] (fun n i wr => ∃ k : Nat, k ≤ l.length ∧ i = .int .i64 k ∧ n = .int .i64 (heldF (l.take k) who item) ∧ Below w.heap.size w wr) (fun _ i _ => l.length - (intOf i).toNat)
  case atStart => exact ⟨0, by omega, rfl, rfl, Below.refl _ _⟩
  case round =>
    obtain ⟨k, hk, rfl, rfl, hbel⟩ := hrel
    by_cases hlt : k < l.length
    · obtain ⟨b, o, rfl, -, hbs, c0, c1, c2⟩ := hA.at_ hbel k hlt
      have hf : heldF (l.take (k + 1)) who item = heldStep who item (heldF (l.take k) who item) l[k] := foldl_take_succ _ _ l k hlt
      have Hf := Lib.hid hf; clear hf
      generalize heldF (l.take k) who item = n at *
      go_wp2
      all_goals
        go_roundw
        case rel => exact ⟨k + 1, by omega, by go_num, by rw [Hf.out, heldStep]; (repeat' split) <;> first | rfl | (exfalso; omega) | (simp_all; done), by (repeat (first | assumption | exact Below.refl _ _ | refine bel_alloc ?_ _ | refine Below.drew ?_ | refine below_drewN' ?_ _ | (refine bel_set ?_ (by first | (simp; done) | (simp; omega)) _) | (refine bel_row ?_ (by first | (simp; done) | (simp; omega)) _)))⟩
        case measure => simp [intOf]; omega
    · obtain rfl : k = l.length := by omega
      rw [List.take_length]
      go_wp2
      go_ret
      exact ⟨rfl, hbel⟩

theorem heldTake_any (b o c : Nat) (l : List Deed) (k : Nat) (who item : Int) (w : World) (hl : l.length ≤ 9223372036854775807) (hk : k ≤ l.length) (hA : RdDeed w (some ⟨b, o, none⟩) l) :
    Calls Try.prog 50 #[.slice (some ⟨b, o, none⟩) k c, .int .i64 who, .int .i64 item] w fun e w' => e = .returned (.int .i64 (heldF (l.take k) who item)) ∧ Below w.heap.size w w' := by
  have hlen : (l.take k).length = k := by simp; omega
  have := held_any (some ⟨b, o, none⟩) c (l.take k) who item w (by omega) (hA.take k)
  rw [hlen] at this
  exact this

def mostTo (l : List Deed) (who item : Int) : Nat → Int
  | 0 => 0
  | k + 1 => if (k : Int) = who then mostTo l who item k else if mostTo l who item k < heldF l k item then heldF l k item else mostTo l who item k
def okV (own most kind : Int) : Bool :=
  if kind = 0 ∨ kind = 4 then decide (0 < own)
  else if kind = 1 then own == 2
  else if kind = 2 then own == 0 && decide (most < 2)
  else if kind = 3 then decide (own < 2) && most == 0
  else true
def okAt (l : List Deed) (k : Nat) : Bool := match l[k]? with
  | some d => okV (heldF (l.take k) d.who d.item) (mostTo (l.take k) d.who d.item 6) d.kind
  | none => true
theorem okAt_eq {l : List Deed} {k : Nat} (hk : k < l.length) : okAt l k = okV (heldF (l.take k) l[k].who l[k].item) (mostTo (l.take k) l[k].who l[k].item 6) l[k].kind := by
  simp [okAt, hk]
def legal (l : List Deed) : Bool := (List.range l.length).all (okAt l)

theorem legal_false {l : List Deed} {k : Nat} (hk : k < l.length) (h : okAt l k = false) : legal l = false := by
  unfold legal
  rw [List.all_eq_false]
  exact ⟨k, by simpa using hk, by simp [h]⟩
theorem legal_next {l : List Deed} {k : Nat} (h : ∀ j, j < k → okAt l j = true) (hk : okAt l k = true) : ∀ j, j < k + 1 → okAt l j = true := by
  intro j hj
  by_cases e : j = k
  · subst e; exact hk
  · exact h j (by omega)

set_option maxRecDepth 20000 in
set_option maxHeartbeats 4000000 in
theorem legal_any (A : Option Addr) (c : Nat) (l : List Deed) (w : World) (hl : l.length ≤ 9223372036854775807) (hlc : l.length ≤ c) (hA : RdDeed w A l) :
    Calls Try.prog 20 #[.slice A l.length c] w fun e w' => e = .returned (.bool (legal l)) ∧ Below w.heap.size w w' := by
  go_enter Try.func20, Try.ntmps20
  go_wp2
  go_loopw [11] (fun i wr => ∃ k : Nat, k ≤ l.length ∧ i = .int .i64 k ∧ (∀ j, j < k → okAt l j = true) ∧ Below w.heap.size w wr) (fun i _ => l.length - (intOf i).toNat)
  case atStart => exact ⟨0, by omega, rfl, by omega, Below.refl _ _⟩
  case round =>
    obtain ⟨k, hk, rfl, hok, hbel⟩ := hrel
    have Hok := Lib.hid hok; clear hok
    by_cases hlt : k < l.length
    · obtain ⟨b, o, rfl, -, hbs, c0, c1, c2⟩ := hA.at_ hbel k hlt
      have Ho := Lib.hid (okAt_eq hlt)
      have hkc : k ≤ c := by omega
      go_wp2_with (fail)
      (refine qb_region (by kernel_rfl) (by kernel_rfl) ?_)
      repeat (first | (refine qb_skip rfl ?_; (refine qb_norm (fun K hK => ?_); go_simp; refine hK _ ?_; clear hK K)) | (refine qb_val rfl ?_; apply Exists.intro; refine ⟨?_, ?_⟩; (focus (intro w' hw'; have hcl := fun g o (h : g < _) => cell_below hw' (g := g) h o; have hrw := fun g (h : g < _) => rowOf_below hw' (g := g) h; go_simp; first | done | rfl)); (refine qb_norm (fun K hK => ?_); go_simp; refine hK _ ?_; clear hK K)) | (refine qb_none rfl ?_ ?_; (focus (intro w' hw'; have hcl := fun g o (h : g < _) => cell_below hw' (g := g) h o; have hrw := fun g (h : g < _) => rowOf_below hw' (g := g) h; go_simp; first | done | rfl)); (refine qb_norm (fun K hK => ?_); go_simp; refine hK _ ?_; clear hK K)))
      (refine qb_call rfl ?_; apply Exists.intro; apply Exists.intro; apply Exists.intro; refine ⟨?_, ?_, ?_⟩; (focus (intro w'; go_simp; first | done | (exact ⟨rfl, rfl⟩) | rfl)); (focus (intro w' hw'; exact heldTake_any b o c l k l[k].who l[k].item w' (by omega) (by omega) (hA.below (bel_trans (bel_alloc hbel _) hw')))); (refine qb_norm (fun K hK => ?_); go_simp; refine hK _ ?_; clear hK K))
      repeat (first | (refine qb_skip rfl ?_; (refine qb_norm (fun K hK => ?_); go_simp; refine hK _ ?_; clear hK K)) | (refine qb_val rfl ?_; apply Exists.intro; refine ⟨?_, ?_⟩; (focus (intro w' hw'; have hcl := fun g o (h : g < _) => cell_below hw' (g := g) h o; have hrw := fun g (h : g < _) => rowOf_below hw' (g := g) h; go_simp; first | done | rfl)); (refine qb_norm (fun K hK => ?_); go_simp; refine hK _ ?_; clear hK K)) | (refine qb_none rfl ?_ ?_; (focus (intro w' hw'; have hcl := fun g o (h : g < _) => cell_below hw' (g := g) h o; have hrw := fun g (h : g < _) => rowOf_below hw' (g := g) h; go_simp; first | done | rfl)); (refine qb_norm (fun K hK => ?_); go_simp; refine hK _ ?_; clear hK K)))
      (refine qb_nil ?_; intro w2 hb2)
      go_wp2_with (fail)
      have hb2' := bel_trans (bel_alloc hbel (Obj.cells #[.int .i64 l[k].who, .int .i64 l[k].kind, .int .i64 l[k].item] 48)) hb2
      have hbx := (Blk.new wr 48 #[.int .i64 l[k].who, .int .i64 l[k].kind, .int .i64 l[k].item]).carry hb2
      generalize heldF (l.take k) l[k].who l[k].item = own at *
      clear c0 c1 c2
      obtain ⟨wo, rfl⟩ : ∃ wo : World, wo = wr := ⟨_, rfl⟩
      go_loopw [6, 24] (fun m i wr => ∃ q : Nat, q ≤ 6 ∧ i = .int .i64 q ∧ m = .int .i64 (mostTo (l.take k) l[k].who l[k].item q) ∧ Below w.heap.size w wr ∧ Blk wr wo.heap.size 48 #[.int .i64 l[k].who, .int .i64 l[k].kind, .int .i64 l[k].item]) (fun _ i _ => 6 - (intOf i).toNat)
      case atStart => exact ⟨0, by omega, rfl, rfl, hb2', hbx⟩
      case round =>
        obtain ⟨q, hq, rfl, rfl, hbel2, hbx2⟩ := hrel
        have x0 := hbx2.cell 0
        have x1 := hbx2.cell 1
        have x2 := hbx2.cell 2
        have x5 := hbx2.lt
        simp only [List.getElem?_toArray, List.getElem?_cons_succ, List.getElem?_cons_zero] at x0 x1 x2
        by_cases hlt2 : q < 6
        · by_cases hqw : (q : Int) = l[k].who
          · have e : mostTo (l.take k) l[k].who l[k].item (q + 1) = mostTo (l.take k) l[k].who l[k].item q := by simp [mostTo, hqw]
            have E := Lib.hid e; clear e
            have hq' : ((q : Int) != l[k].who) = false := by simp [hqw]
            clear hqw
            go_wp2_with (fail)
            go_roundw
            case rel => exact ⟨q + 1, by omega, by go_num, by rw [E.out], by (repeat (first | assumption | exact Below.refl _ _ | refine bel_alloc ?_ _ | refine Below.drew ?_ | refine below_drewN' ?_ _ | (refine bel_set ?_ (by first | (simp; done) | (simp; omega)) _) | (refine bel_row ?_ (by first | (simp; done) | (simp; omega)) _))), hbx2⟩
            case measure => simp [intOf]; omega
          · have e : mostTo (l.take k) l[k].who l[k].item (q + 1) = if mostTo (l.take k) l[k].who l[k].item q < heldF (l.take k) q l[k].item then heldF (l.take k) q l[k].item else mostTo (l.take k) l[k].who l[k].item q := by simp [mostTo, hqw]
            have E := Lib.hid e; clear e
            have hq' : ((q : Int) != l[k].who) = true := by simp [hqw]
            clear hqw
            go_wp2_with (fail)
            (refine qb_region (by kernel_rfl) (by kernel_rfl) ?_)
            repeat (first | (refine qb_skip rfl ?_; (refine qb_norm (fun K hK => ?_); go_simp; refine hK _ ?_; clear hK K)) | (refine qb_val rfl ?_; apply Exists.intro; refine ⟨?_, ?_⟩; (focus (intro w' hw'; have hcl := fun g o (h : g < _) => cell_below hw' (g := g) h o; have hrw := fun g (h : g < _) => rowOf_below hw' (g := g) h; go_simp; first | done | rfl)); (refine qb_norm (fun K hK => ?_); go_simp; refine hK _ ?_; clear hK K)) | (refine qb_none rfl ?_ ?_; (focus (intro w' hw'; have hcl := fun g o (h : g < _) => cell_below hw' (g := g) h o; have hrw := fun g (h : g < _) => rowOf_below hw' (g := g) h; go_simp; first | done | rfl)); (refine qb_norm (fun K hK => ?_); go_simp; refine hK _ ?_; clear hK K)))
            (refine qb_call rfl ?_; apply Exists.intro; apply Exists.intro; apply Exists.intro; refine ⟨?_, ?_, ?_⟩; (focus (intro w'; go_simp; first | done | (exact ⟨rfl, rfl⟩) | rfl)); (focus (intro w' hw'; exact heldTake_any b o c l k q l[k].item w' (by omega) (by omega) (hA.below (bel_trans hbel2 hw')))); (refine qb_norm (fun K hK => ?_); go_simp; refine hK _ ?_; clear hK K))
            repeat (first | (refine qb_skip rfl ?_; (refine qb_norm (fun K hK => ?_); go_simp; refine hK _ ?_; clear hK K)) | (refine qb_val rfl ?_; apply Exists.intro; refine ⟨?_, ?_⟩; (focus (intro w' hw'; have hcl := fun g o (h : g < _) => cell_below hw' (g := g) h o; have hrw := fun g (h : g < _) => rowOf_below hw' (g := g) h; go_simp; first | done | rfl)); (refine qb_norm (fun K hK => ?_); go_simp; refine hK _ ?_; clear hK K)) | (refine qb_none rfl ?_ ?_; (focus (intro w' hw'; have hcl := fun g o (h : g < _) => cell_below hw' (g := g) h o; have hrw := fun g (h : g < _) => rowOf_below hw' (g := g) h; go_simp; first | done | rfl)); (refine qb_norm (fun K hK => ?_); go_simp; refine hK _ ?_; clear hK K)))
            (refine qb_nil ?_; intro w3 hb3)
            go_wp2_with (fail)
            go_roundw
            case rel => exact ⟨q + 1, by omega, by go_num, by rw [E.out], bel_trans hbel2 hb3, hbx2.carry hb3⟩
            case measure => simp [intOf]; omega
        · obtain rfl : q = 6 := by omega
          generalize mostTo (l.take k) l[k].who l[k].item 6 = most at *
          go_wp2_with (fail)
          all_goals first
            | (go_ret; exact ⟨ret_bool (legal_false hlt (by rw [Ho.out]; first | (simp_all [okV]; done) | (simp_all [okV]; omega))).symm, by (repeat (first | assumption | exact Below.refl _ _ | refine bel_alloc ?_ _ | refine Below.drew ?_ | refine below_drewN' ?_ _ | (refine bel_set ?_ (by first | (simp; done) | (simp; omega)) _) | (refine bel_row ?_ (by first | (simp; done) | (simp; omega)) _)))⟩)
            | (go_roundw
               case rel => exact ⟨k + 1, by omega, by go_num, legal_next Hok.out (by rw [Ho.out]; first | (simp_all [okV]; done) | (simp_all [okV]; omega)), by (repeat (first | assumption | exact Below.refl _ _ | refine bel_alloc ?_ _ | refine Below.drew ?_ | refine below_drewN' ?_ _ | (refine bel_set ?_ (by first | (simp; done) | (simp; omega)) _) | (refine bel_row ?_ (by first | (simp; done) | (simp; omega)) _)))⟩
               case measure => simp [intOf]; omega)
    · obtain rfl : k = l.length := by omega
      go_wp2
      go_ret
      exact ⟨ret_bool (by simp only [legal]; exact (List.all_eq_true.2 fun j hj => Hok.out j (by simpa using hj)).symm), hbel⟩

/-! The law: what Locks says is what the document says. -/
def code (n : Int) : Int := if n = 1 then 2 else if n = 2 then 3 else 0
theorem held_range (l : List Deed) (who item : Int) : 0 ≤ heldF l who item ∧ heldF l who item ≤ 2 := by
  unfold heldF
  suffices h : ∀ (l : List Deed) (n : Int), 0 ≤ n ∧ n ≤ 2 → 0 ≤ l.foldl (heldStep who item) n ∧ l.foldl (heldStep who item) n ≤ 2 from h l 0 (by omega)
  intro l
  induction l with
  | nil => intro n hn; exact hn
  | cons d l ih =>
    intro n hn
    rw [List.foldl_cons]
    apply ih
    unfold heldStep
    (repeat' split) <;> omega

/-- the table tells what is held -/
def Tells (f : Nat → Int) (l : List Deed) : Prop := ∀ w i : Nat, w < 6 → i < 6 → f (w * 6 + i) = code (heldF l w i)

theorem others_code {f : Nat → Int} {l : List Deed} (h : Tells f l) (who item : Nat) (hi : item < 6) : ∀ k, k ≤ 6 → othersTo f who item k = code (mostTo l who item k) ∧ 0 ≤ mostTo l who item k ∧ mostTo l who item k ≤ 2
  | 0, _ => by simp [othersTo, mostTo, code]
  | k + 1, hk => by
    obtain ⟨ih, i1, i2⟩ := others_code h who item hi k (by omega)
    have hr := held_range l k item
    have hh := h k item (by omega) hi
    simp only [othersTo, mostTo]
    by_cases hw : k = who
    · have hw' : (k : Int) = who := by omega
      simp only [if_pos hw, if_pos hw']
      exact ⟨ih, i1, i2⟩
    · have hw' : ¬ (k : Int) = who := by omega
      simp only [if_neg hw, if_neg hw', ih, hh]
      generalize heldF l k item = a at *
      generalize mostTo l who item k = b at *
      have ha : a = 0 ∨ a = 1 ∨ a = 2 := by omega
      have hb : b = 0 ∨ b = 1 ∨ b = 2 := by omega
      rcases ha with rfl | rfl | rfl <;> rcases hb with rfl | rfl | rfl <;> decide

theorem can_ok {f : Nat → Int} {l : List Deed} (h : Tells f l) (who item : Nat) (kind : Int) (hw : who < 6) (hi : item < 6) (h0 : 0 ≤ kind) (h4 : kind ≤ 4) :
    canF f who item kind = okV (heldF l who item) (mostTo l who item 6) kind := by
  obtain ⟨e, m1, m2⟩ := others_code h who item hi 6 (by omega)
  have e2 := h who item hw hi
  have hr := held_range l who item
  unfold canF
  rw [e, e2]
  generalize heldF l who item = a at *
  generalize mostTo l who item 6 = b at *
  have ha : a = 0 ∨ a = 1 ∨ a = 2 := by omega
  have hb : b = 0 ∨ b = 1 ∨ b = 2 := by omega
  have hk : kind = 0 ∨ kind = 1 ∨ kind = 2 ∨ kind = 3 ∨ kind = 4 := by omega
  rcases ha with rfl | rfl | rfl <;> rcases hb with rfl | rfl | rfl <;> rcases hk with rfl | rfl | rfl | rfl | rfl <;> decide
end Go.Proofs.Ytnbgcgpkpakicaa
