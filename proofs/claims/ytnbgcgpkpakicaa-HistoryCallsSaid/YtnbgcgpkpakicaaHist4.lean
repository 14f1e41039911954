/- Histories: the reader's step where it writes. -/
import Derived.Test.YtnbgcgpkpakicaaHist3
import Derived.RegionTactic
import Derived.StillTailTactics
namespace Go.Proofs.Ytnbgcgpkpakicaa
open Go.RowKit

theorem rdCells_set (t v : Value) (op : Nat → Int) (k : Nat) (hk : k < 8) (z : Int) : (rdCells t v op).setIfInBounds (2 + k) (.int .i64 z) = rdCells t v (upz op k z) := by
  have := ints_set op 8 k z
  unfold ints at this
  apply Array.ext_getElem?
  intro j
  rw [Array.getElem?_setIfInBounds]
  match j with
  | 0 => simp [rdCells]
  | 1 => simp [rdCells]; omega
  | j + 2 =>
    have h := congrArg (fun a : Array Value => a[j]?) this
    simp only [Array.getElem?_setIfInBounds, List.getElem?_toArray, List.size_toArray, List.length_map, List.length_range] at h
    simp only [rdCells, List.getElem?_toArray, List.getElem?_cons_succ, List.size_toArray, List.length_cons, List.length_map, List.length_range]
    rw [← h]
    by_cases e : k = j
    · subst e; simp [hk, Nat.add_comm 2 k]
    · have : ¬ 2 + k = j + 2 := by omega
      simp [e, this]
theorem rdCells_setv (t v u : Value) (op : Nat → Int) : (rdCells t v op).setIfInBounds 1 u = rdCells t u op := by
  apply Array.ext_getElem?
  intro j
  rw [Array.getElem?_setIfInBounds]
  match j with
  | 0 => simp [rdCells]
  | 1 => simp [rdCells]
  | j + 2 => simp [rdCells]

set_option maxHeartbeats 4000000 in
theorem event_end_ok (r : Nat) (T : Option Addr) (c : Nat) (ts : List Int) (v : Value) (op : Nat → Int) (i : Int) (k t : Nat) (value : Int) (w : World) (hl : ts.length ≤ 9223372036854775807) (hk : k < 8) (ht : t < ts.length)
    (hb : Blk w r 120 (rdCells (.slice T ts.length c) v op)) (B : Nat) (hB : B ≤ r) (cs : List Cl) (hcs : cs.length ≤ 1000) (ho : OwnCl w B v cs) (m : Nat) (hm : m < cs.length) (hop : op k = (m : Int) + 1)
    (hth : cs[m].thing = t) (hr : resB cs[m].kind value = true) :
    Calls Try.prog 64 #[.pointer (some ⟨r, 0, none⟩), .int .i64 i, .agg (Ev.enc ⟨k, t, 0, value⟩).toArray] w fun e w' => e = .returned (.int .i64 0) ∧
      Blk w' r 120 (rdCells (.slice T ts.length c) v (upz op k 0)) ∧ OwnCl w' B v (cs.set m { cs[m] with res := value, to := i }) ∧ Below B w w' := by
  simp only [evCells]
  have c0 := (hb.cell 0).trans (rdCells_0 _ _ _)
  have c2 := (hb.cell (2 + k)).trans (rdCells_at _ _ _ k hk)
  have l0 := hb.lt
  have hk0 : (0 : Int) ≤ k := by omega
  have hk8 : (k : Int) < 8 := by omega
  have ht0 : (0 : Int) ≤ t := by omega
  have ht8 : (t : Int) < ts.length := by omega
  have d1 : decide ((k : Int) < 0) = false := by simp
  have d2 : decide ((8 : Int) ≤ k) = false := by simp; omega
  have d3 : decide ((t : Int) < 0) = false := by simp
  have d4 : decide ((ts.length : Int) ≤ t) = false := by simp; omega
  have c1 := (hb.cell 1).trans (rdCells_1 _ _ _)
  have f2 := hb.frozen (2 + k)
  have hne := ho.ne hb (by decide)
  obtain ⟨g, cc, hv, hgB, hg, hc, hfz⟩ := ho.at_ Cl.len m hm
  have e1 := hc 1 _ rfl
  have e2 := hc 2 _ rfl
  have e4 := hc 4 _ rfl
  have e6 := hc 6 _ rfl
  have z4 := hfz (m * 7 + 4)
  have z6 := hfz (m * 7 + 6)
  have hgr : g ≠ r := by subst hv; simpa [Value.ownBlock] using hne
  rw [hv] at c1
  rw [hop] at c2
  rw [hth] at e1
  have hm1 : (m : Int) < (cs.length : Int) := by omega
  have hm2 : (cs.length : Int) ≤ 1000 := by omega
  have hm3 : (m : Int) + 1 ≠ 0 := by omega
  have hm4 : ((m : Int) + 1 == 0) = false := by simpa using hm3
  have d5 : (((t : Int) : Int) != t) = false := by simp
  have Hf := Lib.hid (And.intro hb (And.intro ho hne))
  have Hset : ∀ W, Own Cl.enc 7 92 W B v cs → Own Cl.enc 7 92 ((W.setCell ⟨g, m * 7 + 4, none⟩ (.int .i64 value)).setCell ⟨g, m * 7 + 6, none⟩ (.int .i64 i)) B v (cs.set m { cs[m] with res := value, to := i }) := by
    intro W h
    have h1 := h.set_ Cl.len m hm 4 (by omega) (.int .i64 value) { cs[m] with res := value } rfl hv
    have h2 := h1.set_ Cl.len m (by simpa using hm) 6 (by omega) (.int .i64 i) { cs[m] with res := value, to := i } (by simp [Cl.enc]) (by simpa using hv)
    simpa using h2
  have HH := Lib.hid Hset
  clear hb ho hc hfz hop hne hv Hset
  go_enter Try.func64, Try.ntmps64
  go_wp2_with (fail)
  go_quiet (fail)
  go_wp2_with (fail)
  go_quiet (fail)
  go_wp2_with (fail)
  go_quiet (first | (go_at_call 76; (first | exact Calls.quiet_of_same (result_is (by assumption) _) | exact Calls.quiet_same (result_is (by assumption) _))))
  go_wp2_with (fail)
  have hgr' : r ≠ g := fun e => hgr e.symm
  have hgw : g ≠ w.heap.size := by omega
  have hgw' : w.heap.size ≠ g := by omega
  have hrw : r ≠ w.heap.size := by omega
  · go_region
    go_wp2_with (fail)
    go_ret
    refine ⟨rfl, ?_, ?_, ?_⟩
    · rw [← rdCells_set _ _ _ _ hk]
      exact (((((Hf.out.1.alloc _).drewN _).far hgr' _).far hgr' _).set_ _ _)
    · exact Own.far (HH.out _ (Own.drewN (Own.alloc Hf.out.2.1 _) _)) (p := ⟨r, 2 + k, none⟩) Hf.out.2.2 _
    · (repeat (first | assumption | exact Below.refl _ _ | refine Below.drew ?_ | refine below_drewN' ?_ _ | refine Below.alloc ?_ (by first | omega | (simp; done) | (simp; omega)) _ | refine Below.setCell ?_ (by first | omega | (simp; done) | (simp; omega)) _))
theorem name_drewN {P : Program} {c : Code} {Q : Exit → Act → World → Prop} {a : Act} {W : World} {n : Nat} (h : ∀ w2, (∃ m, w2 = W.drewN m) → Code.wp P c Q a w2) : Code.wp P c Q a (W.drewN n) := h _ ⟨n, rfl⟩
theorem info_call : (Try.prog.info? 92).map (fun i => (i.zero, i.size, i.bytes)) = some (some (.agg #[.int .i64 0, .int .i64 0, .int .i64 0, .int .i64 0, .int .i64 0, .int .i64 0, .int .i64 0]), 7, 56) := by kernel_rfl

set_option maxRecDepth 100000 in
set_option maxHeartbeats 4000000 in
theorem event_call_ok (r : Nat) (T : Option Addr) (c : Nat) (ts : List Int) (v : Value) (op : Nat → Int) (i : Int) (k t : Nat) (kind value : Int) (w : World) (hl : ts.length ≤ 9223372036854775807) (hk : k < 8) (ht : t < ts.length)
    (hb : Blk w r 120 (rdCells (.slice T ts.length c) v op)) (hT : RdInt w T ts) (B : Nat) (hB : B ≤ r) (cs : List Cl) (hcs : cs.length ≤ 1000) (ho : OwnCl w B v cs)
    (hkind : (kind != 0) = true) (hf : fitsB ts[t] kind = true) (ha : argB kind value = true) (hop : op k = 0) :
    Calls Try.prog 64 #[.pointer (some ⟨r, 0, none⟩), .int .i64 i, .agg (Ev.enc ⟨k, t, kind, value⟩).toArray] w fun e w' => ∃ v', e = .returned (.int .i64 0) ∧
      Blk w' r 120 (rdCells (.slice T ts.length c) v' (upz op k (cs.length + 1))) ∧ OwnCl w' B v' (cs ++ [⟨k, t, kind, value, 0, i, -1⟩]) ∧ Below B w w' := by
  simp only [evCells]
  have c0 := (hb.cell 0).trans (rdCells_0 _ _ _)
  have c2 := (hb.cell (2 + k)).trans (rdCells_at _ _ _ k hk)
  have l0 := hb.lt
  have hk0 : (0 : Int) ≤ k := by omega
  have hk8 : (k : Int) < 8 := by omega
  have ht0 : (0 : Int) ≤ t := by omega
  have ht8 : (t : Int) < ts.length := by omega
  have d1 : decide ((k : Int) < 0) = false := by simp
  have d2 : decide ((8 : Int) ≤ k) = false := by simp; omega
  have d3 : decide ((t : Int) < 0) = false := by simp
  have d4 : decide ((ts.length : Int) ≤ t) = false := by simp; omega
  have hne := ho.ne hb (by decide)
  obtain ⟨i0, hi0, hz0, hz1, hz2⟩ := info_parts info_call
  obtain ⟨b, o, rfl, hb0, hbs, t0⟩ := hT.at_ (Below.refl _ _) t ht
  rw [hop] at c2
  have Hf := Lib.hid (And.intro hb (And.intro ho hne))
  clear hb ho hne hT hop
  go_enter Try.func64, Try.ntmps64
  go_wp2_with (fail)
  go_quiet (fail)
  go_wp2_with (fail)
  go_quiet (fail)
  go_wp2_with (fail)
  go_quiet (first | (go_at_call 43; (first | exact Calls.quiet_of_same (fits_is (by assumption) _) | exact Calls.quiet_same (fits_is (by assumption) _))) | (go_at_call 75; (first | exact Calls.quiet_of_same (argument_is (by assumption) _) | exact Calls.quiet_same (argument_is (by assumption) _))))
  go_wp2_with (fail)
  refine name_drewN (fun w2 h2 => ?_)
  obtain ⟨h2b, h2o, h2x, h2s, h2B⟩ : Blk w2 r 120 (rdCells (.slice (some ⟨b, o, none⟩) ts.length c) v op) ∧ OwnCl w2 B v cs ∧ Blk w2 w.heap.size 122 #[.int .i64 k, .int .i64 t, .int .i64 kind, .int .i64 value] ∧ w.heap.size < w2.heap.size ∧ Below B w w2 := by
    obtain ⟨m, rfl⟩ := h2
    exact ⟨(Hf.out.1.alloc _).drewN m, (Own.alloc Hf.out.2.1 _).drewN m, (Blk.new _ _ _).drewN m, by simp, by (repeat (first | assumption | exact Below.refl _ _ | refine Below.drew ?_ | refine below_drewN' ?_ _ | refine Below.alloc ?_ (by first | omega | (simp; done) | (simp; omega)) _ | refine Below.setCell ?_ (by first | omega | (simp; done) | (simp; omega)) _))⟩
  have hne := Hf.out.2.2
  have hnx := Own.ne h2o h2x (by decide)
  have x0 := h2x.cell 0
  have x1 := h2x.cell 1
  have x2 := h2x.cell 2
  have x3 := h2x.cell 3
  simp only [List.getElem?_toArray, List.getElem?_cons_succ, List.getElem?_cons_zero] at x0 x1 x2 x3
  have y1 := (h2b.cell 1).trans (rdCells_1 _ _ _)
  have y2 := h2b.frozen 1
  have y3 := h2b.lt
  have yf : ∀ o, (w2.alloc o).frozen? ⟨r, 1, none⟩ = false := fun o => (h2b.alloc o).frozen 1
  have yf' : ∀ o, (w2.alloc o).drew.frozen? ⟨r, 1, none⟩ = false := yf
  have z0 := h2B.size
  have Hk := Lib.hid (And.intro h2b (And.intro h2o (And.intro h2B (And.intro hne hnx))))
  clear Hf h2 h2o h2B hne hnx c0 c2 t0
  have hrw : r ≠ w.heap.size := by omega
  have hwr : w.heap.size ≠ r := by omega
  have yc : ∀ o, (w2.alloc o).cell? ⟨r, 1, none⟩ = some v := fun o => ((h2b.alloc o).cell 1).trans (rdCells_1 _ _ _)
  have yc' : ∀ o, (w2.alloc o).drew.cell? ⟨r, 1, none⟩ = some v := yc
  have hown0 : ((w2.alloc (.cells #[.int .i64 k, .int .i64 t, .int .i64 kind, .int .i64 value, .int .i64 0, .int .i64 i, .int .i64 (-1)] 92)).drew).ownsRow B 92 7 v cs.length (cs.flatMap Cl.enc) := (Own.alloc Hk.out.2.1 _).drew
  have hnews := Lib.hid (World.news_of_block (cs := #[.int .i64 k, .int .i64 t, .int .i64 kind, .int .i64 value, .int .i64 0, .int .i64 i, .int .i64 (-1)]) (t := 92) (fr := (0, 0)) (w := (w2.alloc (.cells #[.int .i64 k, .int .i64 t, .int .i64 kind, .int .i64 value, .int .i64 0, .int .i64 i, .int .i64 (-1)] 92)).drew) (heap_alloc_new w2 _))
  have hone : ∀ u ∈ Cl.enc ⟨k, t, kind, value, 0, i, -1⟩, u.oneCell' = true := by simp [Cl.enc, Value.oneCell']
  have hown0' := Lib.hid hown0
  have hone' := Lib.hid hone
  clear hown0 hone
  go_region_held3 (fun w' => w'.cell? ⟨w.heap.size, 0, none⟩ = some (.int .i64 k) ∧ w'.cell? ⟨w.heap.size, 1, none⟩ = some (.int .i64 t) ∧ w'.cell? ⟨w.heap.size, 2, none⟩ = some (.int .i64 kind) ∧ w'.cell? ⟨w.heap.size, 3, none⟩ = some (.int .i64 value) ∧ w'.frozen? ⟨r, 1, none⟩ = false)
    (go_keep)
    ((refine step_append_lies _ (by rfl) _ _ _ (by rfl) B 92 i0 _ 7 56 Try.underlying84 hi0 hz0 hz1 hz2 rfl (by omega) v cs.length (cs.flatMap Cl.enc) (by rfl) hown0'.out ⟨w2.heap.size, 0, none⟩ 1 1 (Cl.enc ⟨k, t, kind, value, 0, i, -1⟩) (by rfl) (by rfl) hnews.out hone'.out (by omega) (by unfold maxLen; omega) (by omega) (by simp; omega) (w2.heap.size + 1) (by simp) ?_; intro gg cap w3 hown1 hgrow hat hlt; have b3 : Blk w3 r 120 (rdCells (.slice (some ⟨b, o, none⟩) ts.length c) v op) := (hgrow.block r (by simp; omega) (Ne.symm Hk.out.2.2.2.1)).trans ((Hk.out.1.alloc _)); have q1 := (b3.cell 1).trans (rdCells_1 _ _ _); have q2 := b3.frozen 1; have q3 := b3.lt; have bx3 : Blk w3 w.heap.size 122 #[.int .i64 k, .int .i64 t, .int .i64 kind, .int .i64 value] := (hgrow.block w.heap.size (by simp; omega) (Ne.symm Hk.out.2.2.2.2)).trans (h2x.alloc _); have s0 := bx3.cell 0; have s1 := bx3.cell 1; have s2 := bx3.cell 2; have s3 := bx3.cell 3; simp only [List.getElem?_toArray, List.getElem?_cons_succ, List.getElem?_cons_zero] at s0 s1 s2 s3))
  all_goals
    have O3 : Own Cl.enc 7 92 w3 B (.slice (some ⟨gg, 0, none⟩) (cs.length + 1) cap) (cs ++ [⟨k, t, kind, value, 0, i, -1⟩]) := Own.push hown1 rfl rfl
    have hne3 := O3.ne b3 (by decide)
    have hB3 : Below B w w3 := Below.grown (Below.drew (Below.alloc Hk.out.2.2.1 (by omega) _)) hgrow (by simp; omega) (fun j hj => (World.ownsRow.lt hown0'.out j hj).1)
    generalize hW4 : w3.setCell ⟨r, 1, none⟩ (.slice (some ⟨gg, 0, none⟩) (cs.length + 1) cap) = W4
    have B4 : Blk W4 r 120 (rdCells (.slice (some ⟨b, o, none⟩) ts.length c) (.slice (some ⟨gg, 0, none⟩) (cs.length + 1) cap) op) := by
      rw [← hW4, ← rdCells_setv _ v]
      exact b3.set_ 1 _
    have O4 : Own Cl.enc 7 92 W4 B (.slice (some ⟨gg, 0, none⟩) (cs.length + 1) cap) (cs ++ [⟨k, t, kind, value, 0, i, -1⟩]) := by
      rw [← hW4]
      exact O3.far hne3 _
    have X4 : Blk W4 w.heap.size 122 #[.int .i64 k, .int .i64 t, .int .i64 kind, .int .i64 value] := by
      rw [← hW4]
      exact bx3.far hwr _
    have hB4 : Below B w W4 := by
      rw [← hW4]
      exact hB3.setCell (by simp; omega) _
    have HH := Lib.hid (And.intro B4 (And.intro O4 (And.intro hB4 hne3)))
    have p0 := X4.cell 0
    simp only [List.getElem?_toArray, List.getElem?_cons_succ, List.getElem?_cons_zero] at p0
    have p1 := (B4.cell 1).trans (rdCells_1 _ _ _)
    have p2 := (B4.cell (2 + k)).trans (rdCells_at _ _ _ k hk)
    have p3 := B4.frozen (2 + k)
    have p4 := B4.lt
    clear hW4 O3 hne3 hB3 B4 O4 X4 hB4 b3 bx3 q1 q2 q3 s0 s1 s2 s3 hown1 hgrow hat hlt hown0' hone' hnews Hk yc yc' yf yf' y1 y2 x0 x1 x2 x3 h2x h2b
    go_wp2_with (fail)
    · go_region
      go_wp2_with (fail)
      go_ret
      refine ⟨_, rfl, ?_, Own.far HH.out.2.1 HH.out.2.2.2 _, ?_⟩
      · rw [← rdCells_set _ _ _ _ hk]
        exact HH.out.1.set_ _ _
      · exact (HH.out.2.2.1.setCell (by simp; omega) _).drew
end Go.Proofs.Ytnbgcgpkpakicaa
