/- slices.Equal at []int: what it computes, for all slices. -/
import Derived.Test.YtppicbdaijiifaaRows
import Derived.Test.YtppicbdaijiifaaRead
import Derived.RegionTactic
set_option linter.unusedSimpArgs false
set_option linter.unusedVariables false
set_option linter.unusedSectionVars false
set_option linter.unnecessarySimpa false
namespace Go.Proofs.Ytppicbdaijiifaa
open Go.RowKit

def intEnc (z : Int) : List Value := [.int .i64 z]
/-- a slice of ints reads as the list -/
def RdInt (w : World) (A : Option Addr) (l : List Int) : Prop := RdE intEnc 1 w A l
theorem RdInt.at_ {w wr : World} {A : Option Addr} {l : List Int} (h : RdInt w A l) (hb : Below w.heap.size w wr) (k : Nat) (hk : k < l.length) :
    ∃ b o, A = some ⟨b, o, none⟩ ∧ b < w.heap.size ∧ b < wr.heap.size ∧ wr.cell? ⟨b, o + k, none⟩ = some (.int .i64 l[k]) := by
  obtain ⟨b, o, h1, h2, h3, h4⟩ := RdE.at_ h hb k hk
  have := h4 0 _ rfl
  rw [Nat.mul_one] at this
  exact ⟨b, o, h1, h2, h3, this⟩
theorem RdInt.of_ints {w : World} {g t n : Nat} {f : Nat → Int} (h : Blk w g t (ints f n)) : RdInt w (some ⟨g, 0, none⟩) ((List.range n).map f) := by
  intro i x hx
  have hi : i < n := by
    have := (List.getElem?_eq_some_iff.1 hx).1
    simpa using this
  have hx' : f i = x := by simpa [hi] using hx
  subst hx'
  refine ⟨g, 0, rfl, h.lt, fun j v hv => ?_⟩
  match j, hv with
  | 0, hv =>
    obtain rfl : v = .int .i64 (f i) := by simpa [intEnc] using hv.symm
    have := (h.cell i).trans (ints_at f n i hi)
    simpa using this
  | j + 1, hv => simp [intEnc] at hv

theorem RdInt.of_list {w : World} {g t : Nat} {l : List Int} (h : Blk w g t (l.map (Value.int .i64)).toArray) : RdInt w (some ⟨g, 0, none⟩) l := by
  intro i x hx
  refine ⟨g, 0, rfl, h.lt, fun j v hv => ?_⟩
  match j, hv with
  | 0, hv =>
    obtain rfl : v = .int .i64 x := by simpa [intEnc] using hv.symm
    have := h.cell i
    simp only [List.getElem?_toArray, List.getElem?_map, hx, Option.map_some] at this
    simpa using this
  | j + 1, hv => simp [intEnc] at hv

set_option maxHeartbeats 2000000 in
theorem equal_any (A B : Option Addr) (c d : Nat) (l m : List Int) (w : World) (hl : l.length ≤ 9223372036854775807) (hm : m.length ≤ 9223372036854775807) (hA : RdInt w A l) (hB : RdInt w B m) :
    Calls Try.prog 40 #[.slice A l.length c, .slice B m.length d] w fun e w' => e = .returned (.bool (decide (l = m))) ∧ Below w.heap.size w w' := by
  by_cases hlen : l.length = m.length
  · have hne : ((l.length : Int) != (m.length : Int)) = false := by simp; omega
    have Hlen := Lib.hid hlen
    have hle : l.length ≤ m.length := by omega
    clear hlen
    go_enter Try.func40, Try.ntmps40
    go_wp2
    go_loopw [13] (fun i wr => ∃ k : Nat, k ≤ l.length ∧ i = .int .i64 k ∧ Hid (∀ j, j < k → l[j]? = m[j]?) ∧ Below w.heap.size w wr) (fun i _ => l.length - (intOf i).toNat)
    case atStart => exact ⟨0, by omega, rfl, Lib.hid (by omega), Below.refl _ _⟩
    case round =>
      obtain ⟨k, hk, rfl, hall, hbel⟩ := hrel
      by_cases hlt : k < l.length
      · obtain ⟨b, o, rfl, hb0, hbs, c0⟩ := hA.at_ hbel k hlt
        obtain ⟨b2, o2, rfl, hb02, hbs2, d0⟩ := hB.at_ hbel k (by omega)
        have hk1 : (k : Int) < (l.length : Int) := by omega
        have hk2 : (k : Int) < (m.length : Int) := by omega
        by_cases he : l[k] = m[k]
        · have hb : (l[k] != m[k]) = false := by simp [he]
          have He := Lib.hid he
          clear he
          go_wp2
          go_quiet (fail)
          go_wp2
          go_roundw
          case rel => exact ⟨k + 1, by omega, by go_num, Lib.hid (fun j hj => by
            by_cases e : j = k
            · subst e; rw [List.getElem?_eq_getElem hlt, List.getElem?_eq_getElem (by omega), He.out]
            · exact hall.out j (by omega)), by (repeat (first | assumption | exact Below.refl _ _ | refine bel_alloc ?_ _ | refine Below.drew ?_ | refine below_drewN' ?_ _ | (refine bel_set ?_ (by first | (simp; done) | (simp; omega)) _) | (refine bel_row ?_ (by first | (simp; done) | (simp; omega)) _)))⟩
          case measure => simp [intOf]; omega
        · have hb : (l[k] != m[k]) = true := by simp [he]
          have He := Lib.hid he
          clear he
          go_wp2
          go_quiet (fail)
          go_wp2
          go_ret
          exact ⟨ret_bool (by
            symm
            simp only [decide_eq_false_iff_not]
            intro e
            subst e
            exact He.out rfl), by (repeat (first | assumption | exact Below.refl _ _ | refine bel_alloc ?_ _ | refine Below.drew ?_ | refine below_drewN' ?_ _ | (refine bel_set ?_ (by first | (simp; done) | (simp; omega)) _) | (refine bel_row ?_ (by first | (simp; done) | (simp; omega)) _)))⟩
      · obtain rfl : k = l.length := by omega
        go_wp2
        go_ret
        exact ⟨ret_bool (by
          symm
          simp only [decide_eq_true_eq]
          apply List.ext_getElem?
          intro j
          by_cases hj : j < l.length
          · exact hall.out j hj
          · rw [List.getElem?_eq_none (by omega), List.getElem?_eq_none (by have := Hlen.out; omega)]), hbel⟩
  · have hne : ((l.length : Int) != (m.length : Int)) = true := by simp; omega
    have H := Lib.hid (show decide (l = m) = false by simp; intro e; exact hlen (by rw [e]))
    clear hlen
    go_enter Try.func40, Try.ntmps40
    go_wp2
    go_ret
    exact ⟨ret_bool H.out.symm, Below.refl _ _⟩
end Go.Proofs.Ytppicbdaijiifaa
