/- Histories: the reader's step where it writes. -/
import Derived.Test.YtppicbdaijiifaaHist3
import Derived.RegionTactic
import Derived.StillTailTactics
set_option linter.unusedSimpArgs false
set_option linter.unusedVariables false
set_option linter.unusedSectionVars false
set_option linter.unnecessarySimpa false
namespace Go.Proofs.Ytppicbdaijiifaa
open Go.RowKit

theorem rdCells_set (t v : Value) (op : Nat → Int) (k : Nat) (hk : k < 8) (z : Int) : (rdCells t v op).setIfInBounds (2 + k) (.int .i64 z) = rdCells t v (upz op k z) := by
  have := ints_set op 8 k z
  unfold ints at this
  apply Array.ext_getElem?
  intro j
  rw [Array.getElem?_setIfInBounds]
  match j with
  | 0 => simp [rdCells]
  | 1 => simp [rdCells]; omega
  | j + 2 =>
    have h := congrArg (fun a : Array Value => a[j]?) this
    simp only [Array.getElem?_setIfInBounds, List.getElem?_toArray, List.size_toArray, List.length_map, List.length_range] at h
    simp only [rdCells, List.getElem?_toArray, List.getElem?_cons_succ, List.size_toArray, List.length_cons, List.length_map, List.length_range]
    rw [← h]
    by_cases e : k = j
    · subst e; simp [hk, Nat.add_comm 2 k]
    · have : ¬ 2 + k = j + 2 := by omega
      simp [e, this]
theorem rdCells_setv (t v u : Value) (op : Nat → Int) : (rdCells t v op).setIfInBounds 1 u = rdCells t u op := by
  apply Array.ext_getElem?
  intro j
  rw [Array.getElem?_setIfInBounds]
  match j with
  | 0 => simp [rdCells]
  | 1 => simp [rdCells]
  | j + 2 => simp [rdCells]

set_option maxHeartbeats 4000000 in
theorem event_end_ok (r : Nat) (T : Option Addr) (c : Nat) (ts : List Int) (v : Value) (op : Nat → Int) (i : Int) (k t : Nat) (value : Int) (w : World) (hl : ts.length ≤ 9223372036854775807) (hk : k < 8) (ht : t < ts.length)
    (hb : Blk w r 229 (rdCells (.slice T ts.length c) v op)) (B : Nat) (hB : B ≤ r) (cs : List Cl) (hcs : cs.length ≤ 1000) (ho : OwnCl w B v cs) (m : Nat) (hm : m < cs.length) (hop : op k = (m : Int) + 1)
    (hth : cs[m].thing = t) (hr : resB cs[m].kind value = true) :
    Calls Try.prog 136 #[.pointer (some ⟨r, 0, none⟩), .int .i64 i, .agg (Ev.enc ⟨k, t, 0, value⟩).toArray] w fun e w' => e = .returned (.int .i64 0) ∧
      Blk w' r 229 (rdCells (.slice T ts.length c) v (upz op k 0)) ∧ OwnCl w' B v (cs.set m { cs[m] with res := value, to := i }) ∧ Below B w w' := by
  simp only [evCells]
  have c0 := (hb.cell 0).trans (rdCells_0 _ _ _)
  have c2 := (hb.cell (2 + k)).trans (rdCells_at _ _ _ k hk)
  have l0 := hb.lt
  have hk0 : (0 : Int) ≤ k := by omega
  have hk8 : (k : Int) < 8 := by omega
  have ht0 : (0 : Int) ≤ t := by omega
  have ht8 : (t : Int) < ts.length := by omega
  have d1 : decide ((k : Int) < 0) = false := by simp
  have d2 : decide ((8 : Int) ≤ k) = false := by simp; omega
  have d3 : decide ((t : Int) < 0) = false := by simp
  have d4 : decide ((ts.length : Int) ≤ t) = false := by simp; omega
  have c1 := (hb.cell 1).trans (rdCells_1 _ _ _)
  have f2 := hb.frozen (2 + k)
  have hne := ho.ne hb (by decide)
  obtain ⟨g, cc, hv, hgB, hg, hc, hfz⟩ := ho.at_ Cl.len m hm
  have e1 := hc 1 _ rfl
  have e2 := hc 2 _ rfl
  have e4 := hc 4 _ rfl
  have e6 := hc 6 _ rfl
  have z4 := hfz (m * 7 + 4)
  have z6 := hfz (m * 7 + 6)
  have hgr : g ≠ r := by subst hv; simpa [Value.ownBlock] using hne
  rw [hv] at c1
  rw [hop] at c2
  rw [hth] at e1
  have hm1 : (m : Int) < (cs.length : Int) := by omega
  have hm2 : (cs.length : Int) ≤ 1000 := by omega
  have hm3 : (m : Int) + 1 ≠ 0 := by omega
  have hm4 : ((m : Int) + 1 == 0) = false := by simpa using hm3
  have d5 : (((t : Int) : Int) != t) = false := by simp
  have Hf := Lib.hid (And.intro hb (And.intro ho hne))
  have Hset : ∀ W, Own Cl.enc 7 64 W B v cs → Own Cl.enc 7 64 ((W.setCell ⟨g, m * 7 + 4, none⟩ (.int .i64 value)).setCell ⟨g, m * 7 + 6, none⟩ (.int .i64 i)) B v (cs.set m { cs[m] with res := value, to := i }) := by
    intro W h
    have h1 := h.set_ Cl.len m hm 4 (by omega) (.int .i64 value) { cs[m] with res := value } rfl hv
    have h2 := h1.set_ Cl.len m (by simpa using hm) 6 (by omega) (.int .i64 i) { cs[m] with res := value, to := i } (by simp [Cl.enc]) (by simpa using hv)
    simpa using h2
  have HH := Lib.hid Hset
  clear hb ho hc hfz hop hne hv Hset
  go_enter Try.func136, Try.ntmps136
  go_wp2_with (fail)
  go_quiet (fail)
  go_wp2_with (fail)
  go_quiet (fail)
  go_wp2_with (fail)
  go_quiet (first | (go_at_call 164; (first | exact Calls.quiet_of_same (result_is (by assumption) _) | exact Calls.quiet_same (result_is (by assumption) _))))
  go_wp2_with (fail)
  have hgr' : r ≠ g := fun e => hgr e.symm
  have hgw : g ≠ w.heap.size := by omega
  have hgw' : w.heap.size ≠ g := by omega
  have hrw : r ≠ w.heap.size := by omega
  · go_region
    go_wp2_with (fail)
    go_ret
    refine ⟨rfl, ?_, ?_, ?_⟩
    · rw [← rdCells_set _ _ _ _ hk]
      exact (((((Hf.out.1.alloc _).drewN _).far hgr' _).far hgr' _).set_ _ _)
    · exact Own.far (HH.out _ (Own.drewN (Own.alloc Hf.out.2.1 _) _)) (p := ⟨r, 2 + k, none⟩) Hf.out.2.2 _
    · (repeat (first | assumption | exact Below.refl _ _ | refine Below.drew ?_ | refine below_drewN' ?_ _ | refine Below.alloc ?_ (by first | omega | (simp; done) | (simp; omega)) _ | refine Below.setCell ?_ (by first | omega | (simp; done) | (simp; omega)) _))
theorem name_drewN {P : Program} {c : Code} {Q : Exit → Act → World → Prop} {a : Act} {W : World} {n : Nat} (h : ∀ w2, (∃ m, w2 = W.drewN m) → Code.wp P c Q a w2) : Code.wp P c Q a (W.drewN n) := h _ ⟨n, rfl⟩
theorem info_call : (Try.prog.info? 64).map (fun i => (i.zero, i.size, i.bytes)) = some (some (.agg #[.int .i64 0, .int .i64 0, .int .i64 0, .int .i64 0, .int .i64 0, .int .i64 0, .int .i64 0]), 7, 56) := by kernel_rfl

end Go.Proofs.Ytppicbdaijiifaa
