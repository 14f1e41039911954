/- Histories: the reader's step: what it computes, for every state and event. -/
import Derived.Test.YtppicbdaijiifaaHist2
import Derived.Test.YtppicbdaijiifaaOwn
import Derived.Deep.RegionHeld3
import Derived.Deep.AppendLies
import Derived.Deep.DrawnRows
import Derived.BigRegion
set_option linter.unusedSimpArgs false
set_option linter.unusedVariables false
set_option linter.unusedSectionVars false
set_option linter.unnecessarySimpa false
namespace Go.Proofs.Ytppicbdaijiifaa
open Go.RowKit

structure Ev where
  who : Int
  thing : Int
  kind : Int
  value : Int
deriving DecidableEq
structure Cl where
  who : Int
  thing : Int
  kind : Int
  arg : Int
  res : Int
  from_ : Int
  to : Int
deriving DecidableEq
instance : Inhabited Cl := ⟨⟨0, 0, 0, 0, 0, 0, 0⟩⟩
def Ev.enc (v : Ev) : List Value := [.int .i64 v.who, .int .i64 v.thing, .int .i64 v.kind, .int .i64 v.value]
def Cl.enc (v : Cl) : List Value := [.int .i64 v.who, .int .i64 v.thing, .int .i64 v.kind, .int .i64 v.arg, .int .i64 v.res, .int .i64 v.from_, .int .i64 v.to]
def RdEv (w : World) (A : Option Addr) (l : List Ev) : Prop := RdE Ev.enc 4 w A l
def RdCl (w : World) (A : Option Addr) (l : List Cl) : Prop := RdE Cl.enc 7 w A l

def formBad (ts : List Int) (v : Ev) : Bool := decide (v.who < 0) || decide (8 ≤ v.who) || decide (v.thing < 0) || decide ((ts.length : Int) ≤ v.thing)
def rdCells (t v : Value) (op : Nat → Int) : Array Value := (t :: v :: (List.range 8).map fun i => Value.int .i64 (op i)).toArray
theorem rdCells_0 (t v : Value) (op : Nat → Int) : (rdCells t v op)[0]? = some t := rfl
theorem rdCells_1 (t v : Value) (op : Nat → Int) : (rdCells t v op)[1]? = some v := rfl
theorem rdCells_at (t v : Value) (op : Nat → Int) (i : Nat) (h : i < 8) : (rdCells t v op)[2 + i]? = some (.int .i64 (op i)) := by
  simp [rdCells, Nat.add_comm 2 i, h]
theorem evCells (v : Ev) : Ev.enc v = [.int .i64 v.who, .int .i64 v.thing, .int .i64 v.kind, .int .i64 v.value] := rfl

theorem Calls.quiet_same {P : Program} {f : FuncId} {args : Array Value} {w : World} {a n : Nat} {v : Value}
    (h : Calls P f args (w.drewN (a + n)) fun e w' => e = .returned v ∧ w' = w.drewN (a + n)) : Calls P f args (w.drewN (a + n)) fun e w'' => e = .returned v ∧ ∃ m, w'' = w.drewN (a + m) :=
  h.mono fun _ _ ⟨he, hm⟩ => ⟨he, n, hm⟩
theorem fits_is {t k : Int} {b : Bool} (h : fitsB t k = b) (w : World) : Calls Try.prog 146 #[.int .i64 t, .int .i64 k] w fun e w' => e = .returned (.bool b) ∧ w' = w :=
  (fits_any t k w).mono fun e w' ⟨he, hw⟩ => ⟨by rw [he, h], hw.symm⟩
theorem argument_is {t k : Int} {b : Bool} (h : argB t k = b) (w : World) : Calls Try.prog 147 #[.int .i64 t, .int .i64 k] w fun e w' => e = .returned (.bool b) ∧ w' = w :=
  (argument_any t k w).mono fun e w' ⟨he, hw⟩ => ⟨by rw [he, h], hw.symm⟩
theorem result_is {t k : Int} {b : Bool} (h : resB t k = b) (w : World) : Calls Try.prog 164 #[.int .i64 t, .int .i64 k] w fun e w' => e = .returned (.bool b) ∧ w' = w :=
  (result_any t k w).mono fun e w' ⟨he, hw⟩ => ⟨by rw [he, h], hw.symm⟩

set_option maxHeartbeats 2000000 in
theorem event_form (r : Nat) (T : Option Addr) (c : Nat) (ts : List Int) (v : Value) (op : Nat → Int) (i : Int) (x : Ev) (w : World) (hl : ts.length ≤ 9223372036854775807)
    (hb : Blk w r 229 (rdCells (.slice T ts.length c) v op)) (hbad : formBad ts x = true) :
    Calls Try.prog 136 #[.pointer (some ⟨r, 0, none⟩), .int .i64 i, .agg (Ev.enc x).toArray] w fun e w' => e = .returned (.int .i64 3) ∧ Below w.heap.size w w' := by
  obtain ⟨who, thing, kind, value⟩ := x
  simp only [formBad, Bool.not_eq_true', Bool.not_eq_false', decide_eq_true_eq, decide_eq_false_iff_not, Bool.and_eq_true, Bool.or_eq_true, Bool.or_eq_false_iff, Bool.and_eq_false_iff] at hbad
  simp only [evCells]
  have c0 := (hb.cell 0).trans (rdCells_0 _ _ _)
  have l0 := hb.lt
  have q0 := World.new_ne w ⟨r, 0, none⟩ c0
  by_cases h1 : who < 0
  · have d1 : decide (who < 0) = true := by simpa using h1
    clear hbad
    go_enter Try.func136, Try.ntmps136
    go_wp2_with (fail)
    go_quiet (fail)
    go_wp2_with (fail)
    go_ret
    exact ⟨rfl, by (repeat (first | assumption | exact Below.refl _ _ | refine bel_alloc ?_ _ | refine Below.drew ?_ | refine below_drewN' ?_ _ | (refine bel_set ?_ (by first | (simp; done) | (simp; omega)) _) | (refine bel_row ?_ (by first | (simp; done) | (simp; omega)) _)))⟩
  · have d1 : decide (who < 0) = false := by simpa using h1
    by_cases h2 : 8 ≤ who
    · have d2 : decide (8 ≤ who) = true := by simpa using h2
      clear hbad
      go_enter Try.func136, Try.ntmps136
      go_wp2_with (fail)
      go_quiet (fail)
      go_wp2_with (fail)
      go_ret
      exact ⟨rfl, by (repeat (first | assumption | exact Below.refl _ _ | refine bel_alloc ?_ _ | refine Below.drew ?_ | refine below_drewN' ?_ _ | (refine bel_set ?_ (by first | (simp; done) | (simp; omega)) _) | (refine bel_row ?_ (by first | (simp; done) | (simp; omega)) _)))⟩
    · have d2 : decide (8 ≤ who) = false := by simpa using h2
      by_cases h3 : thing < 0
      · have d3 : decide (thing < 0) = true := by simpa using h3
        clear hbad
        go_enter Try.func136, Try.ntmps136
        go_wp2_with (fail)
        go_quiet (fail)
        go_wp2_with (fail)
        go_ret
        exact ⟨rfl, by (repeat (first | assumption | exact Below.refl _ _ | refine bel_alloc ?_ _ | refine Below.drew ?_ | refine below_drewN' ?_ _ | (refine bel_set ?_ (by first | (simp; done) | (simp; omega)) _) | (refine bel_row ?_ (by first | (simp; done) | (simp; omega)) _)))⟩
      · have d3 : decide (thing < 0) = false := by simpa using h3
        have d4 : decide ((ts.length : Int) ≤ thing) = true := by simp; omega
        clear hbad
        go_enter Try.func136, Try.ntmps136
        go_wp2_with (fail)
        go_quiet (fail)
        go_wp2_with (fail)
        go_ret
        exact ⟨rfl, by (repeat (first | assumption | exact Below.refl _ _ | refine bel_alloc ?_ _ | refine Below.drew ?_ | refine below_drewN' ?_ _ | (refine bel_set ?_ (by first | (simp; done) | (simp; omega)) _) | (refine bel_row ?_ (by first | (simp; done) | (simp; omega)) _)))⟩
set_option maxHeartbeats 2000000 in
theorem event_call_bad (r : Nat) (T : Option Addr) (c : Nat) (ts : List Int) (v : Value) (op : Nat → Int) (i : Int) (k t : Nat) (kind value : Int) (w : World) (hl : ts.length ≤ 9223372036854775807) (hk : k < 8) (ht : t < ts.length)
    (hb : Blk w r 229 (rdCells (.slice T ts.length c) v op)) (hT : RdInt w T ts) (hkind : (kind != 0) = true) (hbad : (fitsB ts[t] kind && argB kind value) = false) :
    Calls Try.prog 136 #[.pointer (some ⟨r, 0, none⟩), .int .i64 i, .agg (Ev.enc ⟨k, t, kind, value⟩).toArray] w fun e w' => e = .returned (.int .i64 3) ∧ Below w.heap.size w w' := by
  simp only [evCells]
  have c0 := (hb.cell 0).trans (rdCells_0 _ _ _)
  have c2 := (hb.cell (2 + k)).trans (rdCells_at _ _ _ k hk)
  have l0 := hb.lt
  have hk0 : (0 : Int) ≤ k := by omega
  have hk8 : (k : Int) < 8 := by omega
  have ht0 : (0 : Int) ≤ t := by omega
  have ht8 : (t : Int) < ts.length := by omega
  have d1 : decide ((k : Int) < 0) = false := by simp
  have d2 : decide ((8 : Int) ≤ k) = false := by simp; omega
  have d3 : decide ((t : Int) < 0) = false := by simp
  have d4 : decide ((ts.length : Int) ≤ t) = false := by simp; omega
  obtain ⟨b, o, rfl, hb0, hbs, t0⟩ := hT.at_ (Below.refl _ _) t ht
  by_cases hf : fitsB ts[t] kind = true
  · have ha : argB kind value = false := by simpa [hf] using hbad
    clear hbad hb hT
    go_enter Try.func136, Try.ntmps136
    go_wp2_with (fail)
    go_quiet (fail)
    go_wp2_with (fail)
    go_quiet (fail)
    go_wp2_with (fail)
    go_quiet (first | (go_at_call 146; (first | exact Calls.quiet_of_same (fits_is (by assumption) _) | exact Calls.quiet_same (fits_is (by assumption) _))) | (go_at_call 147; (first | exact Calls.quiet_of_same (argument_is (by assumption) _) | exact Calls.quiet_same (argument_is (by assumption) _))))
    go_wp2_with (fail)
    go_ret
    exact ⟨rfl, by (repeat (first | assumption | exact Below.refl _ _ | refine bel_alloc ?_ _ | refine Below.drew ?_ | refine below_drewN' ?_ _ | (refine bel_set ?_ (by first | (simp; done) | (simp; omega)) _) | (refine bel_row ?_ (by first | (simp; done) | (simp; omega)) _)))⟩
  · have hf' : fitsB ts[t] kind = false := by simpa using hf
    clear hbad hb hT hf
    go_enter Try.func136, Try.ntmps136
    go_wp2_with (fail)
    go_quiet (fail)
    go_wp2_with (fail)
    go_quiet (fail)
    go_wp2_with (fail)
    go_quiet ((go_at_call 146; (first | exact Calls.quiet_of_same (fits_is (by assumption) _) | exact Calls.quiet_same (fits_is (by assumption) _))))
    go_wp2_with (fail)
    go_ret
    exact ⟨rfl, by (repeat (first | assumption | exact Below.refl _ _ | refine bel_alloc ?_ _ | refine Below.drew ?_ | refine below_drewN' ?_ _ | (refine bel_set ?_ (by first | (simp; done) | (simp; omega)) _) | (refine bel_row ?_ (by first | (simp; done) | (simp; omega)) _)))⟩
theorem Cl.len (x : Cl) : (Cl.enc x).length = 7 := rfl
/-- the call's own list of calls -/
def OwnCl (w : World) (B : Nat) (v : Value) (l : List Cl) : Prop := Own Cl.enc 7 64 w B v l

set_option maxHeartbeats 2000000 in
theorem event_twice (r : Nat) (T : Option Addr) (c : Nat) (ts : List Int) (v : Value) (op : Nat → Int) (i : Int) (k t : Nat) (kind value : Int) (w : World) (hl : ts.length ≤ 9223372036854775807) (hk : k < 8) (ht : t < ts.length)
    (hb : Blk w r 229 (rdCells (.slice T ts.length c) v op)) (hT : RdInt w T ts) (hkind : (kind != 0) = true) (hf : fitsB ts[t] kind = true) (ha : argB kind value = true) (hop : 0 < op k) :
    Calls Try.prog 136 #[.pointer (some ⟨r, 0, none⟩), .int .i64 i, .agg (Ev.enc ⟨k, t, kind, value⟩).toArray] w fun e w' => e = .returned (.int .i64 5) ∧ Below w.heap.size w w' := by
  simp only [evCells]
  have c0 := (hb.cell 0).trans (rdCells_0 _ _ _)
  have c2 := (hb.cell (2 + k)).trans (rdCells_at _ _ _ k hk)
  have l0 := hb.lt
  have hk0 : (0 : Int) ≤ k := by omega
  have hk8 : (k : Int) < 8 := by omega
  have ht0 : (0 : Int) ≤ t := by omega
  have ht8 : (t : Int) < ts.length := by omega
  have d1 : decide ((k : Int) < 0) = false := by simp
  have d2 : decide ((8 : Int) ≤ k) = false := by simp; omega
  have d3 : decide ((t : Int) < 0) = false := by simp
  have d4 : decide ((ts.length : Int) ≤ t) = false := by simp; omega
  obtain ⟨b, o, rfl, hb0, hbs, t0⟩ := hT.at_ (Below.refl _ _) t ht
  clear hb hT
  go_enter Try.func136, Try.ntmps136
  go_wp2_with (fail)
  go_quiet (fail)
  go_wp2_with (fail)
  go_quiet (fail)
  go_wp2_with (fail)
  go_quiet (first | (go_at_call 146; (first | exact Calls.quiet_of_same (fits_is (by assumption) _) | exact Calls.quiet_same (fits_is (by assumption) _))) | (go_at_call 147; (first | exact Calls.quiet_of_same (argument_is (by assumption) _) | exact Calls.quiet_same (argument_is (by assumption) _))))
  go_wp2_with (fail)
  go_ret
  exact ⟨rfl, by (repeat (first | assumption | exact Below.refl _ _ | refine bel_alloc ?_ _ | refine Below.drew ?_ | refine below_drewN' ?_ _ | (refine bel_set ?_ (by first | (simp; done) | (simp; omega)) _) | (refine bel_row ?_ (by first | (simp; done) | (simp; omega)) _)))⟩

set_option maxHeartbeats 2000000 in
theorem event_none (r : Nat) (T : Option Addr) (c : Nat) (ts : List Int) (v : Value) (op : Nat → Int) (i : Int) (k t : Nat) (value : Int) (w : World) (hl : ts.length ≤ 9223372036854775807) (hk : k < 8) (ht : t < ts.length)
    (hb : Blk w r 229 (rdCells (.slice T ts.length c) v op)) (hop : op k = 0) :
    Calls Try.prog 136 #[.pointer (some ⟨r, 0, none⟩), .int .i64 i, .agg (Ev.enc ⟨k, t, 0, value⟩).toArray] w fun e w' => e = .returned (.int .i64 4) ∧ Below w.heap.size w w' := by
  simp only [evCells]
  have c0 := (hb.cell 0).trans (rdCells_0 _ _ _)
  have c2 := (hb.cell (2 + k)).trans (rdCells_at _ _ _ k hk)
  have l0 := hb.lt
  have hk0 : (0 : Int) ≤ k := by omega
  have hk8 : (k : Int) < 8 := by omega
  have ht0 : (0 : Int) ≤ t := by omega
  have ht8 : (t : Int) < ts.length := by omega
  have d1 : decide ((k : Int) < 0) = false := by simp
  have d2 : decide ((8 : Int) ≤ k) = false := by simp; omega
  have d3 : decide ((t : Int) < 0) = false := by simp
  have d4 : decide ((ts.length : Int) ≤ t) = false := by simp; omega
  clear hb
  go_enter Try.func136, Try.ntmps136
  go_wp2_with (fail)
  go_quiet (fail)
  go_wp2_with (fail)
  go_quiet (fail)
  go_wp2_with (fail)
  go_ret
  exact ⟨rfl, by (repeat (first | assumption | exact Below.refl _ _ | refine bel_alloc ?_ _ | refine Below.drew ?_ | refine below_drewN' ?_ _ | (refine bel_set ?_ (by first | (simp; done) | (simp; omega)) _) | (refine bel_row ?_ (by first | (simp; done) | (simp; omega)) _)))⟩

set_option maxHeartbeats 2000000 in
theorem event_end_bad (r : Nat) (T : Option Addr) (c : Nat) (ts : List Int) (v : Value) (op : Nat → Int) (i : Int) (k t : Nat) (value : Int) (w : World) (hl : ts.length ≤ 9223372036854775807) (hk : k < 8) (ht : t < ts.length)
    (hb : Blk w r 229 (rdCells (.slice T ts.length c) v op)) (B : Nat) (cs : List Cl) (hcs : cs.length ≤ 1000) (ho : OwnCl w B v cs) (m : Nat) (hm : m < cs.length) (hop : op k = (m : Int) + 1)
    (hbad : cs[m].thing = t → resB cs[m].kind value = false) :
    Calls Try.prog 136 #[.pointer (some ⟨r, 0, none⟩), .int .i64 i, .agg (Ev.enc ⟨k, t, 0, value⟩).toArray] w fun e w' => e = .returned (.int .i64 3) ∧ Below w.heap.size w w' := by
  simp only [evCells]
  have c0 := (hb.cell 0).trans (rdCells_0 _ _ _)
  have c2 := (hb.cell (2 + k)).trans (rdCells_at _ _ _ k hk)
  have l0 := hb.lt
  have hk0 : (0 : Int) ≤ k := by omega
  have hk8 : (k : Int) < 8 := by omega
  have ht0 : (0 : Int) ≤ t := by omega
  have ht8 : (t : Int) < ts.length := by omega
  have d1 : decide ((k : Int) < 0) = false := by simp
  have d2 : decide ((8 : Int) ≤ k) = false := by simp; omega
  have d3 : decide ((t : Int) < 0) = false := by simp
  have d4 : decide ((ts.length : Int) ≤ t) = false := by simp; omega
  have c1 := (hb.cell 1).trans (rdCells_1 _ _ _)
  obtain ⟨g, cc, rfl, hgB, hg, hc, hfz⟩ := ho.at_ Cl.len m hm
  have e1 := hc 1 _ rfl
  have e2 := hc 2 _ rfl
  rw [hop] at c2
  have hm1 : (m : Int) < (cs.length : Int) := by omega
  have hm2 : (cs.length : Int) ≤ 1000 := by omega
  have hm3 : (m : Int) + 1 ≠ 0 := by omega
  have hm4 : ((m : Int) + 1 == 0) = false := by simpa using hm3
  generalize cs[m].thing = th at *
  generalize cs[m].kind = kd at *
  clear hb ho hc hfz hop
  by_cases he : th = t
  · subst he
    have hr := hbad rfl
    have d5 : (((t : Int) : Int) != t) = false := by simp
    clear hbad
    go_enter Try.func136, Try.ntmps136
    go_wp2_with (fail)
    go_quiet (fail)
    go_wp2_with (fail)
    go_quiet (fail)
    go_wp2_with (fail)
    go_quiet (first | (go_at_call 164; (first | exact Calls.quiet_of_same (result_is (by assumption) _) | exact Calls.quiet_same (result_is (by assumption) _))))
    go_wp2_with (fail)
    go_ret
    exact ⟨rfl, by (repeat (first | assumption | exact Below.refl _ _ | refine bel_alloc ?_ _ | refine Below.drew ?_ | refine below_drewN' ?_ _ | (refine bel_set ?_ (by first | (simp; done) | (simp; omega)) _) | (refine bel_row ?_ (by first | (simp; done) | (simp; omega)) _)))⟩
  · have d5 : (th != (t : Int)) = true := by simpa using he
    clear hbad
    go_enter Try.func136, Try.ntmps136
    go_wp2_with (fail)
    go_quiet (fail)
    go_wp2_with (fail)
    go_quiet (fail)
    go_wp2_with (fail)
    go_quiet (fail)
    go_wp2_with (fail)
    go_ret
    exact ⟨rfl, by (repeat (first | assumption | exact Below.refl _ _ | refine bel_alloc ?_ _ | refine Below.drew ?_ | refine below_drewN' ?_ _ | (refine bel_set ?_ (by first | (simp; done) | (simp; omega)) _) | (refine bel_row ?_ (by first | (simp; done) | (simp; omega)) _)))⟩
end Go.Proofs.Ytppicbdaijiifaa
