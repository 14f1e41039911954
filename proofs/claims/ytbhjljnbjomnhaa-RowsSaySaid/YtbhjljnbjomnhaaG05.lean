/- Lemmas for the walks (Fst, Between, Equal, Hist1, Hist2, Hist3, Hist4). No condition. -/
import Derived.Test.YtbhjljnbjomnhaaG04
import Derived.Test.YtbhjljnbjomnhaaRows
import Derived.Test.YtbhjljnbjomnhaaG01
import Derived.RegionTactic
import Derived.Deep.RegionHeld3
import Derived.Deep.AppendLies
import Derived.Deep.DrawnRows
import Derived.BigRegion
import Derived.StillTailTactics
set_option linter.unusedSimpArgs false
set_option linter.unusedVariables false
set_option linter.unusedSectionVars false
set_option linter.unnecessarySimpa false
namespace Go.Proofs.Ytbhjljnbjomnhaa

def firstN (n : Nat) (P : Nat → Bool) : Option Nat := (List.range n).find? P
theorem firstN_none {n : Nat} {P : Nat → Bool} (h : ∀ i, i < n → P i = false) : firstN n P = none := by
  unfold firstN
  rw [List.find?_eq_none]
  intro i hi
  rw [h i (List.mem_range.1 hi)]; decide
theorem firstN_at {n i : Nat} {P : Nat → Bool} (hi : i < n) (h1 : ∀ j, j < i → P j = false) (h : P i = true) : firstN n P = some i := by
  unfold firstN
  rw [List.find?_range_eq_some]
  exact ⟨h, List.mem_range.2 hi, fun j hj => by rw [h1 j hj]; decide⟩
theorem firstN_some {n i : Nat} {P : Nat → Bool} (h : firstN n P = some i) : i < n ∧ P i = true ∧ ∀ j, j < i → P j = false := by
  unfold firstN at h
  rw [List.find?_range_eq_some] at h
  exact ⟨List.mem_range.1 h.2.1, h.1, fun j hj => by simpa using h.2.2 j hj⟩
theorem firstN_no {n : Nat} {P : Nat → Bool} (h : firstN n P = none) : ∀ i, i < n → P i = false := by
  unfold firstN at h
  rw [List.find?_eq_none] at h
  intro i hi
  simpa using h i (List.mem_range.2 hi)
def firstP (n : Nat) (m : Nat → Nat) (P : Nat → Nat → Bool) : Option (Nat × Nat) :=
  match firstN n (fun i => (firstN (m i) (P i)).isSome) with
  | none => none
  | some i => (firstN (m i) (P i)).map fun k => (i, k)
theorem firstP_none {n : Nat} {m : Nat → Nat} {P : Nat → Nat → Bool} (h : ∀ i, i < n → ∀ k, k < m i → P i k = false) : firstP n m P = none := by
  unfold firstP
  rw [firstN_none fun i hi => by rw [firstN_none (h i hi)]; rfl]
theorem firstP_at {n i k : Nat} {m : Nat → Nat} {P : Nat → Nat → Bool} (hi : i < n) (hk : k < m i) (h1 : ∀ j, j < i → ∀ q, q < m j → P j q = false) (h2 : ∀ q, q < k → P i q = false) (h : P i k = true) : firstP n m P = some (i, k) := by
  unfold firstP
  have e := firstN_at (P := P i) hk h2 h
  rw [firstN_at (i := i) hi (fun j hj => by rw [firstN_none (h1 j hj)]; rfl) (by rw [e]; rfl)]
  dsimp only
  rw [e]; rfl
theorem firstP_some {n i k : Nat} {m : Nat → Nat} {P : Nat → Nat → Bool} (h : firstP n m P = some (i, k)) : i < n ∧ k < m i ∧ P i k = true := by
  unfold firstP at h
  cases e : firstN n (fun i => (firstN (m i) (P i)).isSome) with
  | none => rw [e] at h; cases h
  | some a =>
    rw [e] at h
    dsimp only at h
    rw [Option.map_eq_some_iff] at h
    obtain ⟨b, h1, h2⟩ := h
    cases h2
    exact ⟨(firstN_some e).1, (firstN_some h1).1, (firstN_some h1).2.1⟩
theorem firstP_no {n : Nat} {m : Nat → Nat} {P : Nat → Nat → Bool} (h : firstP n m P = none) : ∀ i, i < n → ∀ k, k < m i → P i k = false := by
  unfold firstP at h
  cases e : firstN n (fun i => (firstN (m i) (P i)).isSome) with
  | none =>
    intro i hi k hk
    have h1 := firstN_no e i hi
    cases e2 : firstN (m i) (P i) with
    | none => exact firstN_no e2 k hk
    | some b => rw [e2] at h1; cases h1
  | some a =>
    rw [e] at h
    dsimp only at h
    have h1 := (firstN_some e).2.1
    cases e2 : firstN (m a) (P a) with
    | none => rw [e2] at h1; cases h1
    | some b => rw [e2] at h; cases h
theorem firstP_congr {n : Nat} {m : Nat → Nat} {P Q : Nat → Nat → Bool} (h : ∀ i, i < n → ∀ k, k < m i → P i k = Q i k) : firstP n m P = firstP n m Q := by
  cases e : firstP n m Q with
  | none =>
    have h1 := firstP_no e
    exact firstP_none fun i hi k hk => by rw [h i hi k hk]; exact h1 i hi k hk
  | some x =>
    obtain ⟨i, k⟩ := x
    unfold firstP at e
    cases e1 : firstN n (fun i => (firstN (m i) (Q i)).isSome) with
    | none => rw [e1] at e; cases e
    | some a =>
      rw [e1] at e
      dsimp only at e
      rw [Option.map_eq_some_iff] at e
      obtain ⟨b, h1, h2⟩ := e
      cases h2
      obtain ⟨a1, a2, a3⟩ := firstN_some e1
      obtain ⟨b1, b2, b3⟩ := firstN_some h1
      refine firstP_at a1 b1 (fun j hj q hq => ?_) (fun q hq => ?_) ?_
      · rw [h j (by omega) q hq]
        have h3 := a3 j hj
        cases e4 : firstN (m j) (Q j) with
        | none => exact firstN_no e4 q hq
        | some c => rw [e4] at h3; cases h3
      · rw [h i a1 q (by omega)]; exact b3 q hq
      · rw [h i a1 k b1]; exact b2
end Go.Proofs.Ytbhjljnbjomnhaa

namespace Go.Proofs.Ytbhjljnbjomnhaa
open Go.RowKit
theorem between_any (a b c : Int) (w : World) :
    Calls Try.prog 14 #[.int .i64 a, .int .i64 b, .int .i64 c] w fun e w' => e = .returned (.bool (decide (b ≤ a) && decide (a ≤ c))) ∧ w = w' := by
  by_cases h1 : b ≤ a
  · by_cases h2 : a ≤ c
    · go_enter Try.func14, Try.ntmps14
      go_wp2
      go_ret
      simp [h1, h2]
    · go_enter Try.func14, Try.ntmps14
      go_wp2
      go_ret
      simp; omega
  · have h1' : decide (b ≤ a) = false := by simpa using h1
    go_enter Try.func14, Try.ntmps14
    go_wp2
    go_ret
    simp

end Go.Proofs.Ytbhjljnbjomnhaa

namespace Go.Proofs.Ytbhjljnbjomnhaa
open Go.RowKit

def intEnc (z : Int) : List Value := [.int .i64 z]
/-- a slice of ints reads as the list -/
def RdInt (w : World) (A : Option Addr) (l : List Int) : Prop := RdE intEnc 1 w A l
theorem RdInt.at_ {w wr : World} {A : Option Addr} {l : List Int} (h : RdInt w A l) (hb : Below w.heap.size w wr) (k : Nat) (hk : k < l.length) :
    ∃ b o, A = some ⟨b, o, none⟩ ∧ b < w.heap.size ∧ b < wr.heap.size ∧ wr.cell? ⟨b, o + k, none⟩ = some (.int .i64 l[k]) := by
  obtain ⟨b, o, h1, h2, h3, h4⟩ := RdE.at_ h hb k hk
  have := h4 0 _ rfl
  rw [Nat.mul_one] at this
  exact ⟨b, o, h1, h2, h3, this⟩
theorem RdInt.of_ints {w : World} {g t n : Nat} {f : Nat → Int} (h : Blk w g t (ints f n)) : RdInt w (some ⟨g, 0, none⟩) ((List.range n).map f) := by
  intro i x hx
  have hi : i < n := by
    have := (List.getElem?_eq_some_iff.1 hx).1
    simpa using this
  have hx' : f i = x := by simpa [hi] using hx
  subst hx'
  refine ⟨g, 0, rfl, h.lt, fun j v hv => ?_⟩
  match j, hv with
  | 0, hv =>
    obtain rfl : v = .int .i64 (f i) := by simpa [intEnc] using hv.symm
    have := (h.cell i).trans (ints_at f n i hi)
    simpa using this
  | j + 1, hv => simp [intEnc] at hv

theorem RdInt.of_list {w : World} {g t : Nat} {l : List Int} (h : Blk w g t (l.map (Value.int .i64)).toArray) : RdInt w (some ⟨g, 0, none⟩) l := by
  intro i x hx
  refine ⟨g, 0, rfl, h.lt, fun j v hv => ?_⟩
  match j, hv with
  | 0, hv =>
    obtain rfl : v = .int .i64 x := by simpa [intEnc] using hv.symm
    have := h.cell i
    simp only [List.getElem?_toArray, List.getElem?_map, hx, Option.map_some] at this
    simpa using this
  | j + 1, hv => simp [intEnc] at hv

set_option maxHeartbeats 2000000 in
theorem equal_any (A B : Option Addr) (c d : Nat) (l m : List Int) (w : World) (hl : l.length ≤ 9223372036854775807) (hm : m.length ≤ 9223372036854775807) (hA : RdInt w A l) (hB : RdInt w B m) :
    Calls Try.prog 52 #[.slice A l.length c, .slice B m.length d] w fun e w' => e = .returned (.bool (decide (l = m))) ∧ Below w.heap.size w w' := by
  by_cases hlen : l.length = m.length
  · have hne : ((l.length : Int) != (m.length : Int)) = false := by simp; omega
    have Hlen := Lib.hid hlen
    have hle : l.length ≤ m.length := by omega
    clear hlen
    go_enter Try.func52, Try.ntmps52
    go_wp2
    go_loopw [13] (fun i wr => ∃ k : Nat, k ≤ l.length ∧ i = .int .i64 k ∧ Hid (∀ j, j < k → l[j]? = m[j]?) ∧ Below w.heap.size w wr) (fun i _ => l.length - (intOf i).toNat)
    case atStart => exact ⟨0, by omega, rfl, Lib.hid (by omega), Below.refl _ _⟩
    case round =>
      obtain ⟨k, hk, rfl, hall, hbel⟩ := hrel
      by_cases hlt : k < l.length
      · obtain ⟨b, o, rfl, hb0, hbs, c0⟩ := hA.at_ hbel k hlt
        obtain ⟨b2, o2, rfl, hb02, hbs2, d0⟩ := hB.at_ hbel k (by omega)
        have hk1 : (k : Int) < (l.length : Int) := by omega
        have hk2 : (k : Int) < (m.length : Int) := by omega
        by_cases he : l[k] = m[k]
        · have hb : (l[k] != m[k]) = false := by simp [he]
          have He := Lib.hid he
          clear he
          go_wp2
          go_quiet (fail)
          go_wp2
          go_roundw
          case rel => exact ⟨k + 1, by omega, by go_num, Lib.hid (fun j hj => by
            by_cases e : j = k
            · subst e; rw [List.getElem?_eq_getElem hlt, List.getElem?_eq_getElem (by omega), He.out]
            · exact hall.out j (by omega)), by (repeat (first | assumption | exact Below.refl _ _ | refine bel_alloc ?_ _ | refine Below.drew ?_ | refine below_drewN' ?_ _ | (refine bel_set ?_ (by first | (simp; done) | (simp; omega)) _) | (refine bel_row ?_ (by first | (simp; done) | (simp; omega)) _)))⟩
          case measure => simp [intOf]; omega
        · have hb : (l[k] != m[k]) = true := by simp [he]
          have He := Lib.hid he
          clear he
          go_wp2
          go_quiet (fail)
          go_wp2
          go_ret
          exact ⟨ret_bool (by
            symm
            simp only [decide_eq_false_iff_not]
            intro e
            subst e
            exact He.out rfl), by (repeat (first | assumption | exact Below.refl _ _ | refine bel_alloc ?_ _ | refine Below.drew ?_ | refine below_drewN' ?_ _ | (refine bel_set ?_ (by first | (simp; done) | (simp; omega)) _) | (refine bel_row ?_ (by first | (simp; done) | (simp; omega)) _)))⟩
      · obtain rfl : k = l.length := by omega
        go_wp2
        go_ret
        exact ⟨ret_bool (by
          symm
          simp only [decide_eq_true_eq]
          apply List.ext_getElem?
          intro j
          by_cases hj : j < l.length
          · exact hall.out j hj
          · rw [List.getElem?_eq_none (by omega), List.getElem?_eq_none (by have := Hlen.out; omega)]), hbel⟩
  · have hne : ((l.length : Int) != (m.length : Int)) = true := by simp; omega
    have H := Lib.hid (show decide (l = m) = false by simp; intro e; exact hlen (by rw [e]))
    clear hlen
    go_enter Try.func52, Try.ntmps52
    go_wp2
    go_ret
    exact ⟨ret_bool H.out.symm, Below.refl _ _⟩
end Go.Proofs.Ytbhjljnbjomnhaa

namespace Go.Proofs.Ytbhjljnbjomnhaa
open Go.RowKit

def typeF (k : Int) : Int := if k = 1 ∨ k = 2 then 1 else if k = 3 ∨ k = 4 then 2 else if k = 5 ∨ k = 6 then 3 else if k = 7 ∨ k = 8 ∨ k = 9 then 4 else if k = 10 then 5 else 0
def fitsB (t k : Int) : Bool := decide (t ≠ 0 ∧ typeF k = t)
def argB (k n : Int) : Bool := if k = 2 ∨ k = 4 ∨ k = 6 ∨ k = 10 then decide (n = 0) else decide (1 ≤ n ∧ n ≤ 1000)
def resB (k n : Int) : Bool := if k = 2 ∨ k = 10 then decide (0 ≤ n ∧ n ≤ 1000) else if k = 4 ∨ k = 6 then decide (n = -1 ∨ (1 ≤ n ∧ n ≤ 1000)) else if k = 7 ∨ k = 8 ∨ k = 9 then decide (n = 0 ∨ n = 1) else decide (n = 0)
def ansB (k n : Int) : Bool := if k = 2 ∨ k = 10 then decide (0 ≤ n ∧ n ≤ 1000) else if k = 4 ∨ k = 6 then decide (n = -1 ∨ (1 ≤ n ∧ n ≤ 1000)) else if 7 ≤ k then decide (0 ≤ n ∧ n ≤ 1) else decide (n = 0)
def kindsL (t : Int) : List Int := if t = 1 then [1, 2] else if t = 2 then [3, 4] else if t = 3 then [5, 6] else if t = 4 then [7, 8, 9] else if t = 5 then [10] else []

theorem typeF_kinds (t k : Int) : fitsB t k = (kindsL t).contains k := by
  rw [Bool.eq_iff_iff]
  unfold fitsB typeF kindsL
  simp only [decide_eq_true_eq]
  repeat' split
  all_goals (simp only [List.contains_cons, List.contains_nil, Bool.or_eq_true, beq_iff_eq, Bool.false_eq_true, or_false, iff_false, not_and]; omega)
theorem typeF_pos {k t : Int} (h : fitsB t k = true) : 1 ≤ k ∧ k ≤ 10 := by
  unfold fitsB typeF at h
  simp only [decide_eq_true_eq] at h
  obtain ⟨h0, h⟩ := h
  repeat' split at h
  all_goals omega
theorem resB_ansB {k n : Int} (h1 : 1 ≤ k) (h2 : k ≤ 10) : resB k n = ansB k n := by
  unfold resB ansB
  repeat' split
  all_goals first | rfl | omega | (apply decide_eq_decide.2; omega)

theorem typeOf_any (k : Int) (w : World) : Calls Try.prog 140 #[.int .i64 k] w fun e w' => e = .returned (.int .i64 (typeF k)) ∧ w = w' := by
  go_enter Try.func140, Try.ntmps140
  go_wp2
  all_goals
    go_ret
    refine ⟨ret_int ?_, rfl⟩
    simp only [beq_iff_eq, beq_eq_false_iff_ne] at *
    unfold typeF
    repeat' split
    all_goals omega

theorem fits_any (t k : Int) (w : World) : Calls Try.prog 94 #[.int .i64 t, .int .i64 k] w fun e w' => e = .returned (.bool (fitsB t k)) ∧ w = w' := by
  by_cases ht : t = 0
  · subst ht
    go_enter Try.func94, Try.ntmps94
    go_wp2
    go_ret
    simp [fitsB]
  · have ht' : (t != 0) = true := by simpa using ht
    go_enter Try.func94, Try.ntmps94
    go_wp2_with (go_at_call 140; refine (typeOf_any _ _).mono ?_; rintro e w' ⟨rfl, rfl⟩)
    go_ret
    exact ⟨ret_bool (by rw [Bool.eq_iff_iff]; simp [fitsB, ht]), rfl⟩

theorem argument_any (k n : Int) (w : World) : Calls Try.prog 95 #[.int .i64 k, .int .i64 n] w fun e w' => e = .returned (.bool (argB k n)) ∧ w = w' := by
  go_enter Try.func95, Try.ntmps95
  go_wp2
  all_goals
    go_ret
    refine ⟨ret_bool ?_, rfl⟩
    try simp only [beq_iff_eq, beq_eq_false_iff_ne] at *
    rw [Bool.eq_iff_iff]
    unfold argB
    repeat' split
    all_goals first | (simp only [Bool.not_eq_true', Bool.not_eq_false', decide_eq_true_eq, decide_eq_false_iff_not, Bool.and_eq_true, Bool.or_eq_true, Bool.or_eq_false_iff, Bool.and_eq_false_iff, beq_iff_eq, Bool.false_eq_true, false_iff, iff_false, true_iff, iff_true] at *; done) | (simp only [Bool.not_eq_true', Bool.not_eq_false', decide_eq_true_eq, decide_eq_false_iff_not, Bool.and_eq_true, Bool.or_eq_true, Bool.or_eq_false_iff, Bool.and_eq_false_iff, beq_iff_eq, Bool.false_eq_true, false_iff, iff_false, true_iff, iff_true] at *; omega)

theorem result_any (k n : Int) (w : World) : Calls Try.prog 179 #[.int .i64 k, .int .i64 n] w fun e w' => e = .returned (.bool (resB k n)) ∧ w = w' := by
  go_enter Try.func179, Try.ntmps179
  go_wp2
  all_goals
    go_ret
    refine ⟨ret_bool ?_, rfl⟩
    try simp only [beq_iff_eq, beq_eq_false_iff_ne] at *
    rw [Bool.eq_iff_iff]
    unfold resB
    repeat' split
    all_goals first | (simp only [Bool.not_eq_true', Bool.not_eq_false', decide_eq_true_eq, decide_eq_false_iff_not, Bool.and_eq_true, Bool.or_eq_true, Bool.or_eq_false_iff, Bool.and_eq_false_iff, beq_iff_eq, Bool.false_eq_true, false_iff, iff_false, true_iff, iff_true] at *; done) | (simp only [Bool.not_eq_true', Bool.not_eq_false', decide_eq_true_eq, decide_eq_false_iff_not, Bool.and_eq_true, Bool.or_eq_true, Bool.or_eq_false_iff, Bool.and_eq_false_iff, beq_iff_eq, Bool.false_eq_true, false_iff, iff_false, true_iff, iff_true] at *; omega)

theorem answers_any (k n : Int) (w : World) : Calls Try.prog 62 #[.int .i64 k, .int .i64 n] w fun e w' => e = .returned (.bool (ansB k n)) ∧ w = w' := by
  go_enter Try.func62, Try.ntmps62
  go_wp2_with (go_at_call 14; refine (between_any _ _ _ _).mono ?_; rintro e w' ⟨rfl, rfl⟩)
  all_goals
    go_ret
    refine ⟨ret_bool ?_, rfl⟩
    try simp only [beq_iff_eq, beq_eq_false_iff_ne] at *
    rw [Bool.eq_iff_iff]
    unfold ansB
    repeat' split
    all_goals first | (simp only [Bool.not_eq_true', Bool.not_eq_false', decide_eq_true_eq, decide_eq_false_iff_not, Bool.and_eq_true, Bool.or_eq_true, Bool.or_eq_false_iff, Bool.and_eq_false_iff, beq_iff_eq, Bool.false_eq_true, false_iff, iff_false, true_iff, iff_true] at *; done) | (simp only [Bool.not_eq_true', Bool.not_eq_false', decide_eq_true_eq, decide_eq_false_iff_not, Bool.and_eq_true, Bool.or_eq_true, Bool.or_eq_false_iff, Bool.and_eq_false_iff, beq_iff_eq, Bool.false_eq_true, false_iff, iff_false, true_iff, iff_true] at *; omega)
end Go.Proofs.Ytbhjljnbjomnhaa

namespace Go.Proofs.Ytbhjljnbjomnhaa
open Go.RowKit

theorem kinds_end {t : Int} {w : World} {l : List Int} {v : Value} (hk : kindsL t = l) (hv : v = .slice (some ⟨w.heap.size, 0, none⟩) l.length l.length) :
    ∃ A c, Ending.returned v = .returned (.slice A (kindsL t).length c) ∧ RdInt (w.alloc (.cells (l.map (Value.int .i64)).toArray 3)) A (kindsL t) ∧ Below w.heap.size w (w.alloc (.cells (l.map (Value.int .i64)).toArray 3)) := by
  subst hk hv
  exact ⟨_, _, rfl, RdInt.of_list (Blk.new _ _ _), by (repeat (first | assumption | exact Below.refl _ _ | refine bel_alloc ?_ _ | refine Below.drew ?_ | refine below_drewN' ?_ _ | (refine bel_set ?_ (by first | (simp; done) | (simp; omega)) _) | (refine bel_row ?_ (by first | (simp; done) | (simp; omega)) _)))⟩
theorem kinds_nil {t : Int} {w : World} {v : Value} (hk : kindsL t = []) (hv : v = .slice none 0 0) :
    ∃ A c, Ending.returned v = .returned (.slice A (kindsL t).length c) ∧ RdInt w A (kindsL t) ∧ Below w.heap.size w w := by
  subst hv
  rw [hk]
  exact ⟨_, _, rfl, RdE.nil _, by (repeat (first | assumption | exact Below.refl _ _ | refine bel_alloc ?_ _ | refine Below.drew ?_ | refine below_drewN' ?_ _ | (refine bel_set ?_ (by first | (simp; done) | (simp; omega)) _) | (refine bel_row ?_ (by first | (simp; done) | (simp; omega)) _)))⟩
theorem kinds_any (t : Int) (w : World) : Calls Try.prog 63 #[.int .i64 t] w fun e w' => ∃ A c, e = .returned (.slice A (kindsL t).length c) ∧ RdInt w' A (kindsL t) ∧ Below w.heap.size w w' := by
  go_enter Try.func63, Try.ntmps63
  go_wp2
  all_goals
    go_ret
    simp only [beq_iff_eq, beq_eq_false_iff_ne] at *
    first
      | (obtain rfl : t = 1 := by assumption
         exact kinds_end (l := [1, 2]) rfl rfl)
      | (obtain rfl : t = 2 := by assumption
         exact kinds_end (l := [3, 4]) rfl rfl)
      | (obtain rfl : t = 3 := by assumption
         exact kinds_end (l := [5, 6]) rfl rfl)
      | (obtain rfl : t = 4 := by assumption
         exact kinds_end (l := [7, 8, 9]) rfl rfl)
      | (obtain rfl : t = 5 := by assumption
         exact kinds_end (l := [10]) rfl rfl)
      | exact kinds_nil (by unfold kindsL; simp only [*, if_false]) rfl

def idxI (l : List Int) (x : Int) : Int := if x ∈ l then (l.idxOf x : Int) else -1
theorem idxI_nn (l : List Int) (x : Int) : decide (0 ≤ idxI l x) = l.contains x := by
  rw [Bool.eq_iff_iff]
  unfold idxI
  by_cases h : x ∈ l <;> simp [h]

set_option maxHeartbeats 2000000 in
theorem index_any (A : Option Addr) (c : Nat) (l : List Int) (x : Int) (w : World) (hl : l.length ≤ 9223372036854775807) (hA : RdInt w A l) :
    Calls Try.prog 111 #[.slice A l.length c, .int .i64 x] w fun e w' => e = .returned (.int .i64 (idxI l x)) ∧ Below w.heap.size w w' := by
  go_enter Try.func111, Try.ntmps111
  go_wp2
  go_loopw [8] (fun i wr => ∃ k : Nat, k ≤ l.length ∧ i = .int .i64 k ∧ Hid (x ∉ l.take k) ∧ Below w.heap.size w wr) (fun i _ => l.length - (intOf i).toNat)
  case atStart => exact ⟨0, by omega, rfl, Lib.hid (by simp), Below.refl _ _⟩
  case round =>
    obtain ⟨k, hk, rfl, hno, hbel⟩ := hrel
    by_cases hlt : k < l.length
    · obtain ⟨b, o, rfl, hb0, hbs, c0⟩ := hA.at_ hbel k hlt
      have hk1 : (k : Int) < (l.length : Int) := by omega
      by_cases he : x = l[k]
      · have hb : (x == l[k]) = true := by simp [he]
        have He := Lib.hid he
        clear he
        go_wp2
        go_ret
        exact ⟨ret_int (by
          have hm : x ∈ l := by rw [He.out]; exact List.getElem_mem _
          unfold idxI
          rw [if_pos hm]
          have : l.idxOf x = k := findIdx_at hlt (by
            rw [List.any_eq_false]
            intro y hy e
            rw [beq_iff_eq] at e
            subst e
            exact hno.out hy) (by simp [He.out])
          rw [this]), by (repeat (first | assumption | exact Below.refl _ _ | refine bel_alloc ?_ _ | refine Below.drew ?_ | refine below_drewN' ?_ _ | (refine bel_set ?_ (by first | (simp; done) | (simp; omega)) _) | (refine bel_row ?_ (by first | (simp; done) | (simp; omega)) _)))⟩
      · have hb : (x == l[k]) = false := by simp [he]
        have He := Lib.hid he
        clear he
        go_wp2
        go_roundw
        case rel => exact ⟨k + 1, by omega, by go_num, Lib.hid (by
          rw [List.take_succ_eq_append_getElem hlt]
          simp only [List.mem_append, List.mem_singleton, not_or]
          exact ⟨hno.out, He.out⟩), by (repeat (first | assumption | exact Below.refl _ _ | refine bel_alloc ?_ _ | refine Below.drew ?_ | refine below_drewN' ?_ _ | (refine bel_set ?_ (by first | (simp; done) | (simp; omega)) _) | (refine bel_row ?_ (by first | (simp; done) | (simp; omega)) _)))⟩
        case measure => simp [intOf]; omega
    · obtain rfl : k = l.length := by omega
      go_wp2
      go_ret
      exact ⟨ret_int (by
        unfold idxI
        rw [if_neg]
        simpa using hno.out), hbel⟩

theorem contains_any (A : Option Addr) (c : Nat) (l : List Int) (x : Int) (w : World) (hl : l.length ≤ 9223372036854775807) (hA : RdInt w A l) :
    Calls Try.prog 56 #[.slice A l.length c, .int .i64 x] w fun e w' => e = .returned (.bool (l.contains x)) ∧ Below w.heap.size w w' := by
  go_enter Try.func56, Try.ntmps56
  go_wp2_with (go_at_call 111; refine (index_any _ _ _ _ _ hl hA).mono ?_; rintro e w' ⟨rfl, hb⟩)
  go_ret
  exact ⟨ret_bool (by rw [← idxI_nn]), by (repeat (first | assumption | exact Below.refl _ _ | refine bel_alloc ?_ _ | refine Below.drew ?_ | refine below_drewN' ?_ _ | (refine bel_set ?_ (by first | (simp; done) | (simp; omega)) _) | (refine bel_row ?_ (by first | (simp; done) | (simp; omega)) _)))⟩

theorem badType_any (t : Int) (w : World) : Calls Try.prog 138 #[.int .i64 t] w fun e w' => e = .returned (.bool (decide (t < 1 ∨ 5 < t))) ∧ w = w' := by
  by_cases h1 : t < 1
  · have hb : decide (t < 1) = true := by simpa using h1
    go_enter Try.func138, Try.ntmps138
    go_wp2
    go_ret
    simp [h1]
  · have hb : decide (t < 1) = false := by simpa using h1
    go_enter Try.func138, Try.ntmps138
    go_wp2
    go_ret
    simp [h1]

def badT (t : Int) : Bool := decide (t < 1 ∨ 5 < t)
set_option maxHeartbeats 2000000 in
theorem indexFunc_any (A : Option Addr) (c : Nat) (l : List Int) (w : World) (hl : l.length ≤ 9223372036854775807) (hA : RdInt w A l) :
    Calls Try.prog 178 #[.slice A l.length c, .func (.func 138) #[] #[]] w fun e w' => (∃ r : Int, e = .returned (.int .i64 r) ∧ decide (0 ≤ r) = l.any badT) ∧ Below w.heap.size w w' := by
  go_enter Try.func178, Try.ntmps178
  go_wp2
  go_loopw [8] (fun i wr => ∃ k : Nat, k ≤ l.length ∧ i = .int .i64 k ∧ Hid ((l.take k).any badT = false) ∧ Below w.heap.size w wr) (fun i _ => l.length - (intOf i).toNat)
  case atStart => exact ⟨0, by omega, rfl, Lib.hid (by simp), Below.refl _ _⟩
  case round =>
    obtain ⟨k, hk, rfl, hno, hbel⟩ := hrel
    by_cases hlt : k < l.length
    · obtain ⟨b, o, rfl, hb0, hbs, c0⟩ := hA.at_ hbel k hlt
      have hk1 : (k : Int) < (l.length : Int) := by omega
      by_cases he : badT l[k] = true
      · have hb : decide (l[k] < 1 ∨ 5 < l[k]) = true := he
        have He := Lib.hid he
        clear he
        go_wp2_with (go_at_call 138; refine (badType_any _ _).mono ?_; rintro e w' ⟨rfl, rfl⟩)
        go_ret
        exact ⟨⟨_, rfl, by
          have : l.any badT = true := List.any_eq_true.2 ⟨l[k], List.getElem_mem _, He.out⟩
          rw [this]; simp⟩, by (repeat (first | assumption | exact Below.refl _ _ | refine bel_alloc ?_ _ | refine Below.drew ?_ | refine below_drewN' ?_ _ | (refine bel_set ?_ (by first | (simp; done) | (simp; omega)) _) | (refine bel_row ?_ (by first | (simp; done) | (simp; omega)) _)))⟩
      · have he' : badT l[k] = false := by simpa using he
        have hb : decide (l[k] < 1 ∨ 5 < l[k]) = false := he'
        have He := Lib.hid he'
        clear he he'
        go_wp2_with (go_at_call 138; refine (badType_any _ _).mono ?_; rintro e w' ⟨rfl, rfl⟩)
        go_roundw
        case rel => exact ⟨k + 1, by omega, by go_num, Lib.hid (any_take_succ' hlt hno.out He.out), by (repeat (first | assumption | exact Below.refl _ _ | refine bel_alloc ?_ _ | refine Below.drew ?_ | refine below_drewN' ?_ _ | (refine bel_set ?_ (by first | (simp; done) | (simp; omega)) _) | (refine bel_row ?_ (by first | (simp; done) | (simp; omega)) _)))⟩
        case measure => simp [intOf]; omega
    · obtain rfl : k = l.length := by omega
      go_wp2
      go_ret
      exact ⟨⟨_, rfl, by have := hno.out; rw [List.take_length] at this; rw [this]; simp⟩, hbel⟩
theorem containsFunc_any (A : Option Addr) (c : Nat) (l : List Int) (w : World) (hl : l.length ≤ 9223372036854775807) (hA : RdInt w A l) :
    Calls Try.prog 139 #[.slice A l.length c, .func (.func 138) #[] #[]] w fun e w' => e = .returned (.bool (l.any badT)) ∧ Below w.heap.size w w' := by
  go_enter Try.func139, Try.ntmps139
  go_wp2_with (go_at_call 178; refine (indexFunc_any _ _ _ _ hl hA).mono ?_; rintro e w' ⟨⟨r, rfl, hr⟩, hb⟩)
  go_ret
  exact ⟨rfl, by assumption⟩

def typesOk (l : List Int) : Bool := decide (1 ≤ l.length ∧ l.length ≤ 4) && !l.any badT
def typesE (l : List Int) : Int := if typesOk l then 0 else 1
set_option maxHeartbeats 2000000 in
theorem types_any (A : Option Addr) (c : Nat) (l : List Int) (w : World) (hl : l.length ≤ 9223372036854775807) (hA : RdInt w A l) :
    Calls Try.prog 93 #[.slice A l.length c] w fun e w' => e = .returned (.int .i64 (typesE l)) ∧ Below w.heap.size w w' := by
  by_cases h1 : l.length < 1
  · have hb : decide ((l.length : Int) < 1) = true := by simp; omega
    have hk : typesOk l = false := by simp [typesOk]; omega
    go_enter Try.func93, Try.ntmps93
    go_wp2
    go_ret
    exact ⟨ret_int (by simp [typesE, hk]), by (repeat (first | assumption | exact Below.refl _ _ | refine bel_alloc ?_ _ | refine Below.drew ?_ | refine below_drewN' ?_ _ | (refine bel_set ?_ (by first | (simp; done) | (simp; omega)) _) | (refine bel_row ?_ (by first | (simp; done) | (simp; omega)) _)))⟩
  · by_cases h2 : 4 < l.length
    · have hb : decide ((l.length : Int) < 1) = false := by simp; omega
      have hb2 : decide (4 < (l.length : Int)) = true := by simp; omega
      have hk : typesOk l = false := by simp [typesOk]; omega
      go_enter Try.func93, Try.ntmps93
      go_wp2
      go_ret
      exact ⟨ret_int (by simp [typesE, hk]), by (repeat (first | assumption | exact Below.refl _ _ | refine bel_alloc ?_ _ | refine Below.drew ?_ | refine below_drewN' ?_ _ | (refine bel_set ?_ (by first | (simp; done) | (simp; omega)) _) | (refine bel_row ?_ (by first | (simp; done) | (simp; omega)) _)))⟩
    · have hb : decide ((l.length : Int) < 1) = false := by simp; omega
      have hb2 : decide (4 < (l.length : Int)) = false := by simp; omega
      have hk : typesOk l = !l.any badT := by simp [typesOk]; omega
      have Hk := Lib.hid hk
      clear hk
      go_enter Try.func93, Try.ntmps93
      go_wp2_with (go_at_call 139; refine (containsFunc_any _ _ _ _ hl hA).mono ?_; rintro e w' ⟨rfl, hb⟩)
      all_goals
        go_ret
        exact ⟨ret_int (by rw [typesE, Hk.out]; simp [*]), by assumption⟩

theorem asks_eq (k n : Int) : argB k n = if [2, 4, 6, 10].contains k then decide (n = 0) else decide (1 ≤ n ∧ n ≤ 1000) := by
  unfold argB
  by_cases h : k = 2 ∨ k = 4 ∨ k = 6 ∨ k = 10
  · rw [if_pos h, if_pos (by simpa using h)]
  · rw [if_neg h, if_neg (by simpa using h)]
theorem asks_any (k n : Int) (w : World) :
    Calls Try.prog 64 #[.int .i64 k, .int .i64 n] w fun e w' => e = .returned (.bool (argB k n)) ∧ Below w.heap.size w w' := by
  have R := RdInt.of_list (l := [2, 4, 6, 10]) (Blk.new w 3 _)
  rw [asks_eq]
  by_cases hc : [2, 4, 6, 10].contains k = true
  · rw [if_pos hc]
    go_enter Try.func64, Try.ntmps64
    go_wp2_with (go_at_call 56; refine (contains_any _ _ [2, 4, 6, 10] _ _ (by decide) R).mono ?_; rintro e w' ⟨rfl, hb⟩; rw [hc])
    go_ret
    exact ⟨rfl, bel_trans (bel_alloc (Below.refl _ _) _) hb⟩
  · rw [if_neg hc]
    have hc' : [2, 4, 6, 10].contains k = false := by simpa using hc
    clear hc
    go_enter Try.func64, Try.ntmps64
    go_wp2_with (first | (go_at_call 56; refine (contains_any _ _ [2, 4, 6, 10] _ _ (by decide) R).mono ?_; rintro e w' ⟨rfl, hb⟩; rw [hc']) | (go_at_call 14; refine (between_any _ _ _ _).mono ?_; rintro e w' ⟨rfl, rfl⟩))
    go_ret
    exact ⟨ret_bool (by rw [Bool.eq_iff_iff]; simp), bel_trans (bel_alloc (Below.refl _ _) _) hb⟩
end Go.Proofs.Ytbhjljnbjomnhaa

namespace Go.Proofs.Ytbhjljnbjomnhaa
open Go.RowKit

structure Ev where
  who : Int
  thing : Int
  kind : Int
  value : Int
deriving DecidableEq
structure Cl where
  who : Int
  thing : Int
  kind : Int
  arg : Int
  res : Int
  from_ : Int
  to : Int
deriving DecidableEq
instance : Inhabited Cl := ⟨⟨0, 0, 0, 0, 0, 0, 0⟩⟩
def Ev.enc (v : Ev) : List Value := [.int .i64 v.who, .int .i64 v.thing, .int .i64 v.kind, .int .i64 v.value]
def Cl.enc (v : Cl) : List Value := [.int .i64 v.who, .int .i64 v.thing, .int .i64 v.kind, .int .i64 v.arg, .int .i64 v.res, .int .i64 v.from_, .int .i64 v.to]
def RdEv (w : World) (A : Option Addr) (l : List Ev) : Prop := RdE Ev.enc 4 w A l
def RdCl (w : World) (A : Option Addr) (l : List Cl) : Prop := RdE Cl.enc 7 w A l

def formBad (ts : List Int) (v : Ev) : Bool := decide (v.who < 0) || decide (8 ≤ v.who) || decide (v.thing < 0) || decide ((ts.length : Int) ≤ v.thing)
def rdCells (t v : Value) (op : Nat → Int) : Array Value := (t :: v :: (List.range 8).map fun i => Value.int .i64 (op i)).toArray
theorem rdCells_0 (t v : Value) (op : Nat → Int) : (rdCells t v op)[0]? = some t := rfl
theorem rdCells_1 (t v : Value) (op : Nat → Int) : (rdCells t v op)[1]? = some v := rfl
theorem rdCells_at (t v : Value) (op : Nat → Int) (i : Nat) (h : i < 8) : (rdCells t v op)[2 + i]? = some (.int .i64 (op i)) := by
  simp [rdCells, Nat.add_comm 2 i, h]
theorem evCells (v : Ev) : Ev.enc v = [.int .i64 v.who, .int .i64 v.thing, .int .i64 v.kind, .int .i64 v.value] := rfl

theorem Calls.quiet_same {P : Program} {f : FuncId} {args : Array Value} {w : World} {a n : Nat} {v : Value}
    (h : Calls P f args (w.drewN (a + n)) fun e w' => e = .returned v ∧ w' = w.drewN (a + n)) : Calls P f args (w.drewN (a + n)) fun e w'' => e = .returned v ∧ ∃ m, w'' = w.drewN (a + m) :=
  h.mono fun _ _ ⟨he, hm⟩ => ⟨he, n, hm⟩
theorem fits_is {t k : Int} {b : Bool} (h : fitsB t k = b) (w : World) : Calls Try.prog 94 #[.int .i64 t, .int .i64 k] w fun e w' => e = .returned (.bool b) ∧ w' = w :=
  (fits_any t k w).mono fun e w' ⟨he, hw⟩ => ⟨by rw [he, h], hw.symm⟩
theorem argument_is {t k : Int} {b : Bool} (h : argB t k = b) (w : World) : Calls Try.prog 95 #[.int .i64 t, .int .i64 k] w fun e w' => e = .returned (.bool b) ∧ w' = w :=
  (argument_any t k w).mono fun e w' ⟨he, hw⟩ => ⟨by rw [he, h], hw.symm⟩
theorem result_is {t k : Int} {b : Bool} (h : resB t k = b) (w : World) : Calls Try.prog 179 #[.int .i64 t, .int .i64 k] w fun e w' => e = .returned (.bool b) ∧ w' = w :=
  (result_any t k w).mono fun e w' ⟨he, hw⟩ => ⟨by rw [he, h], hw.symm⟩

set_option maxHeartbeats 2000000 in
theorem event_form (r : Nat) (T : Option Addr) (c : Nat) (ts : List Int) (v : Value) (op : Nat → Int) (i : Int) (x : Ev) (w : World) (hl : ts.length ≤ 9223372036854775807)
    (hb : Blk w r 260 (rdCells (.slice T ts.length c) v op)) (hbad : formBad ts x = true) :
    Calls Try.prog 141 #[.pointer (some ⟨r, 0, none⟩), .int .i64 i, .agg (Ev.enc x).toArray] w fun e w' => e = .returned (.int .i64 3) ∧ Below w.heap.size w w' := by
  obtain ⟨who, thing, kind, value⟩ := x
  simp only [formBad, Bool.not_eq_true', Bool.not_eq_false', decide_eq_true_eq, decide_eq_false_iff_not, Bool.and_eq_true, Bool.or_eq_true, Bool.or_eq_false_iff, Bool.and_eq_false_iff] at hbad
  simp only [evCells]
  have c0 := (hb.cell 0).trans (rdCells_0 _ _ _)
  have l0 := hb.lt
  have q0 := World.new_ne w ⟨r, 0, none⟩ c0
  by_cases h1 : who < 0
  · have d1 : decide (who < 0) = true := by simpa using h1
    clear hbad
    go_enter Try.func141, Try.ntmps141
    go_wp2_with (fail)
    go_quiet (fail)
    go_wp2_with (fail)
    go_ret
    exact ⟨rfl, by (repeat (first | assumption | exact Below.refl _ _ | refine bel_alloc ?_ _ | refine Below.drew ?_ | refine below_drewN' ?_ _ | (refine bel_set ?_ (by first | (simp; done) | (simp; omega)) _) | (refine bel_row ?_ (by first | (simp; done) | (simp; omega)) _)))⟩
  · have d1 : decide (who < 0) = false := by simpa using h1
    by_cases h2 : 8 ≤ who
    · have d2 : decide (8 ≤ who) = true := by simpa using h2
      clear hbad
      go_enter Try.func141, Try.ntmps141
      go_wp2_with (fail)
      go_quiet (fail)
      go_wp2_with (fail)
      go_ret
      exact ⟨rfl, by (repeat (first | assumption | exact Below.refl _ _ | refine bel_alloc ?_ _ | refine Below.drew ?_ | refine below_drewN' ?_ _ | (refine bel_set ?_ (by first | (simp; done) | (simp; omega)) _) | (refine bel_row ?_ (by first | (simp; done) | (simp; omega)) _)))⟩
    · have d2 : decide (8 ≤ who) = false := by simpa using h2
      by_cases h3 : thing < 0
      · have d3 : decide (thing < 0) = true := by simpa using h3
        clear hbad
        go_enter Try.func141, Try.ntmps141
        go_wp2_with (fail)
        go_quiet (fail)
        go_wp2_with (fail)
        go_ret
        exact ⟨rfl, by (repeat (first | assumption | exact Below.refl _ _ | refine bel_alloc ?_ _ | refine Below.drew ?_ | refine below_drewN' ?_ _ | (refine bel_set ?_ (by first | (simp; done) | (simp; omega)) _) | (refine bel_row ?_ (by first | (simp; done) | (simp; omega)) _)))⟩
      · have d3 : decide (thing < 0) = false := by simpa using h3
        have d4 : decide ((ts.length : Int) ≤ thing) = true := by simp; omega
        clear hbad
        go_enter Try.func141, Try.ntmps141
        go_wp2_with (fail)
        go_quiet (fail)
        go_wp2_with (fail)
        go_ret
        exact ⟨rfl, by (repeat (first | assumption | exact Below.refl _ _ | refine bel_alloc ?_ _ | refine Below.drew ?_ | refine below_drewN' ?_ _ | (refine bel_set ?_ (by first | (simp; done) | (simp; omega)) _) | (refine bel_row ?_ (by first | (simp; done) | (simp; omega)) _)))⟩
set_option maxHeartbeats 2000000 in
theorem event_call_bad (r : Nat) (T : Option Addr) (c : Nat) (ts : List Int) (v : Value) (op : Nat → Int) (i : Int) (k t : Nat) (kind value : Int) (w : World) (hl : ts.length ≤ 9223372036854775807) (hk : k < 8) (ht : t < ts.length)
    (hb : Blk w r 260 (rdCells (.slice T ts.length c) v op)) (hT : RdInt w T ts) (hkind : (kind != 0) = true) (hbad : (fitsB ts[t] kind && argB kind value) = false) :
    Calls Try.prog 141 #[.pointer (some ⟨r, 0, none⟩), .int .i64 i, .agg (Ev.enc ⟨k, t, kind, value⟩).toArray] w fun e w' => e = .returned (.int .i64 3) ∧ Below w.heap.size w w' := by
  simp only [evCells]
  have c0 := (hb.cell 0).trans (rdCells_0 _ _ _)
  have c2 := (hb.cell (2 + k)).trans (rdCells_at _ _ _ k hk)
  have l0 := hb.lt
  have hk0 : (0 : Int) ≤ k := by omega
  have hk8 : (k : Int) < 8 := by omega
  have ht0 : (0 : Int) ≤ t := by omega
  have ht8 : (t : Int) < ts.length := by omega
  have d1 : decide ((k : Int) < 0) = false := by simp
  have d2 : decide ((8 : Int) ≤ k) = false := by simp; omega
  have d3 : decide ((t : Int) < 0) = false := by simp
  have d4 : decide ((ts.length : Int) ≤ t) = false := by simp; omega
  obtain ⟨b, o, rfl, hb0, hbs, t0⟩ := hT.at_ (Below.refl _ _) t ht
  by_cases hf : fitsB ts[t] kind = true
  · have ha : argB kind value = false := by simpa [hf] using hbad
    clear hbad hb hT
    go_enter Try.func141, Try.ntmps141
    go_wp2_with (fail)
    go_quiet (fail)
    go_wp2_with (fail)
    go_quiet (fail)
    go_wp2_with (fail)
    go_quiet (first | (go_at_call 94; (first | exact Calls.quiet_of_same (fits_is (by assumption) _) | exact Calls.quiet_same (fits_is (by assumption) _))) | (go_at_call 95; (first | exact Calls.quiet_of_same (argument_is (by assumption) _) | exact Calls.quiet_same (argument_is (by assumption) _))))
    go_wp2_with (fail)
    go_ret
    exact ⟨rfl, by (repeat (first | assumption | exact Below.refl _ _ | refine bel_alloc ?_ _ | refine Below.drew ?_ | refine below_drewN' ?_ _ | (refine bel_set ?_ (by first | (simp; done) | (simp; omega)) _) | (refine bel_row ?_ (by first | (simp; done) | (simp; omega)) _)))⟩
  · have hf' : fitsB ts[t] kind = false := by simpa using hf
    clear hbad hb hT hf
    go_enter Try.func141, Try.ntmps141
    go_wp2_with (fail)
    go_quiet (fail)
    go_wp2_with (fail)
    go_quiet (fail)
    go_wp2_with (fail)
    go_quiet ((go_at_call 94; (first | exact Calls.quiet_of_same (fits_is (by assumption) _) | exact Calls.quiet_same (fits_is (by assumption) _))))
    go_wp2_with (fail)
    go_ret
    exact ⟨rfl, by (repeat (first | assumption | exact Below.refl _ _ | refine bel_alloc ?_ _ | refine Below.drew ?_ | refine below_drewN' ?_ _ | (refine bel_set ?_ (by first | (simp; done) | (simp; omega)) _) | (refine bel_row ?_ (by first | (simp; done) | (simp; omega)) _)))⟩
theorem Cl.len (x : Cl) : (Cl.enc x).length = 7 := rfl
/-- the call's own list of calls -/
def OwnCl (w : World) (B : Nat) (v : Value) (l : List Cl) : Prop := Own Cl.enc 7 43 w B v l

set_option maxHeartbeats 2000000 in
theorem event_twice (r : Nat) (T : Option Addr) (c : Nat) (ts : List Int) (v : Value) (op : Nat → Int) (i : Int) (k t : Nat) (kind value : Int) (w : World) (hl : ts.length ≤ 9223372036854775807) (hk : k < 8) (ht : t < ts.length)
    (hb : Blk w r 260 (rdCells (.slice T ts.length c) v op)) (hT : RdInt w T ts) (hkind : (kind != 0) = true) (hf : fitsB ts[t] kind = true) (ha : argB kind value = true) (hop : 0 < op k) :
    Calls Try.prog 141 #[.pointer (some ⟨r, 0, none⟩), .int .i64 i, .agg (Ev.enc ⟨k, t, kind, value⟩).toArray] w fun e w' => e = .returned (.int .i64 5) ∧ Below w.heap.size w w' := by
  simp only [evCells]
  have c0 := (hb.cell 0).trans (rdCells_0 _ _ _)
  have c2 := (hb.cell (2 + k)).trans (rdCells_at _ _ _ k hk)
  have l0 := hb.lt
  have hk0 : (0 : Int) ≤ k := by omega
  have hk8 : (k : Int) < 8 := by omega
  have ht0 : (0 : Int) ≤ t := by omega
  have ht8 : (t : Int) < ts.length := by omega
  have d1 : decide ((k : Int) < 0) = false := by simp
  have d2 : decide ((8 : Int) ≤ k) = false := by simp; omega
  have d3 : decide ((t : Int) < 0) = false := by simp
  have d4 : decide ((ts.length : Int) ≤ t) = false := by simp; omega
  obtain ⟨b, o, rfl, hb0, hbs, t0⟩ := hT.at_ (Below.refl _ _) t ht
  clear hb hT
  go_enter Try.func141, Try.ntmps141
  go_wp2_with (fail)
  go_quiet (fail)
  go_wp2_with (fail)
  go_quiet (fail)
  go_wp2_with (fail)
  go_quiet (first | (go_at_call 94; (first | exact Calls.quiet_of_same (fits_is (by assumption) _) | exact Calls.quiet_same (fits_is (by assumption) _))) | (go_at_call 95; (first | exact Calls.quiet_of_same (argument_is (by assumption) _) | exact Calls.quiet_same (argument_is (by assumption) _))))
  go_wp2_with (fail)
  go_ret
  exact ⟨rfl, by (repeat (first | assumption | exact Below.refl _ _ | refine bel_alloc ?_ _ | refine Below.drew ?_ | refine below_drewN' ?_ _ | (refine bel_set ?_ (by first | (simp; done) | (simp; omega)) _) | (refine bel_row ?_ (by first | (simp; done) | (simp; omega)) _)))⟩

set_option maxHeartbeats 2000000 in
theorem event_none (r : Nat) (T : Option Addr) (c : Nat) (ts : List Int) (v : Value) (op : Nat → Int) (i : Int) (k t : Nat) (value : Int) (w : World) (hl : ts.length ≤ 9223372036854775807) (hk : k < 8) (ht : t < ts.length)
    (hb : Blk w r 260 (rdCells (.slice T ts.length c) v op)) (hop : op k = 0) :
    Calls Try.prog 141 #[.pointer (some ⟨r, 0, none⟩), .int .i64 i, .agg (Ev.enc ⟨k, t, 0, value⟩).toArray] w fun e w' => e = .returned (.int .i64 4) ∧ Below w.heap.size w w' := by
  simp only [evCells]
  have c0 := (hb.cell 0).trans (rdCells_0 _ _ _)
  have c2 := (hb.cell (2 + k)).trans (rdCells_at _ _ _ k hk)
  have l0 := hb.lt
  have hk0 : (0 : Int) ≤ k := by omega
  have hk8 : (k : Int) < 8 := by omega
  have ht0 : (0 : Int) ≤ t := by omega
  have ht8 : (t : Int) < ts.length := by omega
  have d1 : decide ((k : Int) < 0) = false := by simp
  have d2 : decide ((8 : Int) ≤ k) = false := by simp; omega
  have d3 : decide ((t : Int) < 0) = false := by simp
  have d4 : decide ((ts.length : Int) ≤ t) = false := by simp; omega
  clear hb
  go_enter Try.func141, Try.ntmps141
  go_wp2_with (fail)
  go_quiet (fail)
  go_wp2_with (fail)
  go_quiet (fail)
  go_wp2_with (fail)
  go_ret
  exact ⟨rfl, by (repeat (first | assumption | exact Below.refl _ _ | refine bel_alloc ?_ _ | refine Below.drew ?_ | refine below_drewN' ?_ _ | (refine bel_set ?_ (by first | (simp; done) | (simp; omega)) _) | (refine bel_row ?_ (by first | (simp; done) | (simp; omega)) _)))⟩

set_option maxHeartbeats 2000000 in
theorem event_end_bad (r : Nat) (T : Option Addr) (c : Nat) (ts : List Int) (v : Value) (op : Nat → Int) (i : Int) (k t : Nat) (value : Int) (w : World) (hl : ts.length ≤ 9223372036854775807) (hk : k < 8) (ht : t < ts.length)
    (hb : Blk w r 260 (rdCells (.slice T ts.length c) v op)) (B : Nat) (cs : List Cl) (hcs : cs.length ≤ 1000) (ho : OwnCl w B v cs) (m : Nat) (hm : m < cs.length) (hop : op k = (m : Int) + 1)
    (hbad : cs[m].thing = t → resB cs[m].kind value = false) :
    Calls Try.prog 141 #[.pointer (some ⟨r, 0, none⟩), .int .i64 i, .agg (Ev.enc ⟨k, t, 0, value⟩).toArray] w fun e w' => e = .returned (.int .i64 3) ∧ Below w.heap.size w w' := by
  simp only [evCells]
  have c0 := (hb.cell 0).trans (rdCells_0 _ _ _)
  have c2 := (hb.cell (2 + k)).trans (rdCells_at _ _ _ k hk)
  have l0 := hb.lt
  have hk0 : (0 : Int) ≤ k := by omega
  have hk8 : (k : Int) < 8 := by omega
  have ht0 : (0 : Int) ≤ t := by omega
  have ht8 : (t : Int) < ts.length := by omega
  have d1 : decide ((k : Int) < 0) = false := by simp
  have d2 : decide ((8 : Int) ≤ k) = false := by simp; omega
  have d3 : decide ((t : Int) < 0) = false := by simp
  have d4 : decide ((ts.length : Int) ≤ t) = false := by simp; omega
  have c1 := (hb.cell 1).trans (rdCells_1 _ _ _)
  obtain ⟨g, cc, rfl, hgB, hg, hc, hfz⟩ := ho.at_ Cl.len m hm
  have e1 := hc 1 _ rfl
  have e2 := hc 2 _ rfl
  rw [hop] at c2
  have hm1 : (m : Int) < (cs.length : Int) := by omega
  have hm2 : (cs.length : Int) ≤ 1000 := by omega
  have hm3 : (m : Int) + 1 ≠ 0 := by omega
  have hm4 : ((m : Int) + 1 == 0) = false := by simpa using hm3
  generalize cs[m].thing = th at *
  generalize cs[m].kind = kd at *
  clear hb ho hc hfz hop
  by_cases he : th = t
  · subst he
    have hr := hbad rfl
    have d5 : (((t : Int) : Int) != t) = false := by simp
    clear hbad
    go_enter Try.func141, Try.ntmps141
    go_wp2_with (fail)
    go_quiet (fail)
    go_wp2_with (fail)
    go_quiet (fail)
    go_wp2_with (fail)
    go_quiet (first | (go_at_call 179; (first | exact Calls.quiet_of_same (result_is (by assumption) _) | exact Calls.quiet_same (result_is (by assumption) _))))
    go_wp2_with (fail)
    go_ret
    exact ⟨rfl, by (repeat (first | assumption | exact Below.refl _ _ | refine bel_alloc ?_ _ | refine Below.drew ?_ | refine below_drewN' ?_ _ | (refine bel_set ?_ (by first | (simp; done) | (simp; omega)) _) | (refine bel_row ?_ (by first | (simp; done) | (simp; omega)) _)))⟩
  · have d5 : (th != (t : Int)) = true := by simpa using he
    clear hbad
    go_enter Try.func141, Try.ntmps141
    go_wp2_with (fail)
    go_quiet (fail)
    go_wp2_with (fail)
    go_quiet (fail)
    go_wp2_with (fail)
    go_quiet (fail)
    go_wp2_with (fail)
    go_ret
    exact ⟨rfl, by (repeat (first | assumption | exact Below.refl _ _ | refine bel_alloc ?_ _ | refine Below.drew ?_ | refine below_drewN' ?_ _ | (refine bel_set ?_ (by first | (simp; done) | (simp; omega)) _) | (refine bel_row ?_ (by first | (simp; done) | (simp; omega)) _)))⟩
end Go.Proofs.Ytbhjljnbjomnhaa

namespace Go.Proofs.Ytbhjljnbjomnhaa
open Go.RowKit

theorem rdCells_set (t v : Value) (op : Nat → Int) (k : Nat) (hk : k < 8) (z : Int) : (rdCells t v op).setIfInBounds (2 + k) (.int .i64 z) = rdCells t v (upz op k z) := by
  have := ints_set op 8 k z
  unfold ints at this
  apply Array.ext_getElem?
  intro j
  rw [Array.getElem?_setIfInBounds]
  match j with
  | 0 => simp [rdCells]
  | 1 => simp [rdCells]; omega
  | j + 2 =>
    have h := congrArg (fun a : Array Value => a[j]?) this
    simp only [Array.getElem?_setIfInBounds, List.getElem?_toArray, List.size_toArray, List.length_map, List.length_range] at h
    simp only [rdCells, List.getElem?_toArray, List.getElem?_cons_succ, List.size_toArray, List.length_cons, List.length_map, List.length_range]
    rw [← h]
    by_cases e : k = j
    · subst e; simp [hk, Nat.add_comm 2 k]
    · have : ¬ 2 + k = j + 2 := by omega
      simp [e, this]
theorem rdCells_setv (t v u : Value) (op : Nat → Int) : (rdCells t v op).setIfInBounds 1 u = rdCells t u op := by
  apply Array.ext_getElem?
  intro j
  rw [Array.getElem?_setIfInBounds]
  match j with
  | 0 => simp [rdCells]
  | 1 => simp [rdCells]
  | j + 2 => simp [rdCells]

set_option maxHeartbeats 4000000 in
theorem event_end_ok (r : Nat) (T : Option Addr) (c : Nat) (ts : List Int) (v : Value) (op : Nat → Int) (i : Int) (k t : Nat) (value : Int) (w : World) (hl : ts.length ≤ 9223372036854775807) (hk : k < 8) (ht : t < ts.length)
    (hb : Blk w r 260 (rdCells (.slice T ts.length c) v op)) (B : Nat) (hB : B ≤ r) (cs : List Cl) (hcs : cs.length ≤ 1000) (ho : OwnCl w B v cs) (m : Nat) (hm : m < cs.length) (hop : op k = (m : Int) + 1)
    (hth : cs[m].thing = t) (hr : resB cs[m].kind value = true) :
    Calls Try.prog 141 #[.pointer (some ⟨r, 0, none⟩), .int .i64 i, .agg (Ev.enc ⟨k, t, 0, value⟩).toArray] w fun e w' => e = .returned (.int .i64 0) ∧
      Blk w' r 260 (rdCells (.slice T ts.length c) v (upz op k 0)) ∧ OwnCl w' B v (cs.set m { cs[m] with res := value, to := i }) ∧ Below B w w' := by
  simp only [evCells]
  have c0 := (hb.cell 0).trans (rdCells_0 _ _ _)
  have c2 := (hb.cell (2 + k)).trans (rdCells_at _ _ _ k hk)
  have l0 := hb.lt
  have hk0 : (0 : Int) ≤ k := by omega
  have hk8 : (k : Int) < 8 := by omega
  have ht0 : (0 : Int) ≤ t := by omega
  have ht8 : (t : Int) < ts.length := by omega
  have d1 : decide ((k : Int) < 0) = false := by simp
  have d2 : decide ((8 : Int) ≤ k) = false := by simp; omega
  have d3 : decide ((t : Int) < 0) = false := by simp
  have d4 : decide ((ts.length : Int) ≤ t) = false := by simp; omega
  have c1 := (hb.cell 1).trans (rdCells_1 _ _ _)
  have f2 := hb.frozen (2 + k)
  have hne := ho.ne hb (by decide)
  obtain ⟨g, cc, hv, hgB, hg, hc, hfz⟩ := ho.at_ Cl.len m hm
  have e1 := hc 1 _ rfl
  have e2 := hc 2 _ rfl
  have e4 := hc 4 _ rfl
  have e6 := hc 6 _ rfl
  have z4 := hfz (m * 7 + 4)
  have z6 := hfz (m * 7 + 6)
  have hgr : g ≠ r := by subst hv; simpa [Value.ownBlock] using hne
  rw [hv] at c1
  rw [hop] at c2
  rw [hth] at e1
  have hm1 : (m : Int) < (cs.length : Int) := by omega
  have hm2 : (cs.length : Int) ≤ 1000 := by omega
  have hm3 : (m : Int) + 1 ≠ 0 := by omega
  have hm4 : ((m : Int) + 1 == 0) = false := by simpa using hm3
  have d5 : (((t : Int) : Int) != t) = false := by simp
  have Hf := Lib.hid (And.intro hb (And.intro ho hne))
  have Hset : ∀ W, Own Cl.enc 7 43 W B v cs → Own Cl.enc 7 43 ((W.setCell ⟨g, m * 7 + 4, none⟩ (.int .i64 value)).setCell ⟨g, m * 7 + 6, none⟩ (.int .i64 i)) B v (cs.set m { cs[m] with res := value, to := i }) := by
    intro W h
    have h1 := h.set_ Cl.len m hm 4 (by omega) (.int .i64 value) { cs[m] with res := value } rfl hv
    have h2 := h1.set_ Cl.len m (by simpa using hm) 6 (by omega) (.int .i64 i) { cs[m] with res := value, to := i } (by simp [Cl.enc]) (by simpa using hv)
    simpa using h2
  have HH := Lib.hid Hset
  clear hb ho hc hfz hop hne hv Hset
  go_enter Try.func141, Try.ntmps141
  go_wp2_with (fail)
  go_quiet (fail)
  go_wp2_with (fail)
  go_quiet (fail)
  go_wp2_with (fail)
  go_quiet (first | (go_at_call 179; (first | exact Calls.quiet_of_same (result_is (by assumption) _) | exact Calls.quiet_same (result_is (by assumption) _))))
  go_wp2_with (fail)
  have hgr' : r ≠ g := fun e => hgr e.symm
  have hgw : g ≠ w.heap.size := by omega
  have hgw' : w.heap.size ≠ g := by omega
  have hrw : r ≠ w.heap.size := by omega
  · go_region
    go_wp2_with (fail)
    go_ret
    refine ⟨rfl, ?_, ?_, ?_⟩
    · rw [← rdCells_set _ _ _ _ hk]
      exact (((((Hf.out.1.alloc _).drewN _).far hgr' _).far hgr' _).set_ _ _)
    · exact Own.far (HH.out _ (Own.drewN (Own.alloc Hf.out.2.1 _) _)) (p := ⟨r, 2 + k, none⟩) Hf.out.2.2 _
    · (repeat (first | assumption | exact Below.refl _ _ | refine Below.drew ?_ | refine below_drewN' ?_ _ | refine Below.alloc ?_ (by first | omega | (simp; done) | (simp; omega)) _ | refine Below.setCell ?_ (by first | omega | (simp; done) | (simp; omega)) _))
theorem name_drewN {P : Program} {c : Code} {Q : Exit → Act → World → Prop} {a : Act} {W : World} {n : Nat} (h : ∀ w2, (∃ m, w2 = W.drewN m) → Code.wp P c Q a w2) : Code.wp P c Q a (W.drewN n) := h _ ⟨n, rfl⟩
theorem info_call : (Try.prog.info? 43).map (fun i => (i.zero, i.size, i.bytes)) = some (some (.agg #[.int .i64 0, .int .i64 0, .int .i64 0, .int .i64 0, .int .i64 0, .int .i64 0, .int .i64 0]), 7, 56) := by kernel_rfl

end Go.Proofs.Ytbhjljnbjomnhaa
