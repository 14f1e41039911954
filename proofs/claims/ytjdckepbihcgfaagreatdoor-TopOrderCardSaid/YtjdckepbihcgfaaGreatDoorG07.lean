/- Lemmas for the walks (Hist4, Hist4c, Hist5, Hist7, Hist8, Cau1, TxO). No condition. -/
import Derived.Test.YtjdckepbihcgfaaGreatDoorG01
import Derived.RegionTactic
import Derived.StillTailTactics
import Derived.Test.YtjdckepbihcgfaaGreatDoorG04
import Derived.Test.YtjdckepbihcgfaaGreatDoorG06
import Derived.Test.YtjdckepbihcgfaaGreatDoorG03
import Derived.Test.YtjdckepbihcgfaaGreatDoorRows
import Derived.Test.YtjdckepbihcgfaaGreatDoorG05
set_option linter.unusedSimpArgs false
set_option linter.unusedVariables false
set_option linter.unusedSectionVars false
set_option linter.unnecessarySimpa false
namespace Go.Proofs.YtjdckepbihcgfaaGreatDoor
open Go.RowKit

theorem rdCells_set (t v : Value) (op : Nat → Int) (k : Nat) (hk : k < 8) (z : Int) : (rdCells t v op).setIfInBounds (2 + k) (.int .i64 z) = rdCells t v (upz op k z) := by
  have := ints_set op 8 k z
  unfold ints at this
  apply Array.ext_getElem?
  intro j
  rw [Array.getElem?_setIfInBounds]
  match j with
  | 0 => simp [rdCells]
  | 1 => simp [rdCells]; omega
  | j + 2 =>
    have h := congrArg (fun a : Array Value => a[j]?) this
    simp only [Array.getElem?_setIfInBounds, List.getElem?_toArray, List.size_toArray, List.length_map, List.length_range] at h
    simp only [rdCells, List.getElem?_toArray, List.getElem?_cons_succ, List.size_toArray, List.length_cons, List.length_map, List.length_range]
    rw [← h]
    by_cases e : k = j
    · subst e; simp [hk, Nat.add_comm 2 k]
    · have : ¬ 2 + k = j + 2 := by omega
      simp [e, this]
theorem rdCells_setv (t v u : Value) (op : Nat → Int) : (rdCells t v op).setIfInBounds 1 u = rdCells t u op := by
  apply Array.ext_getElem?
  intro j
  rw [Array.getElem?_setIfInBounds]
  match j with
  | 0 => simp [rdCells]
  | 1 => simp [rdCells]
  | j + 2 => simp [rdCells]

set_option maxHeartbeats 4000000 in
theorem event_end_ok (r : Nat) (T : Option Addr) (c : Nat) (ts : List Int) (v : Value) (op : Nat → Int) (i : Int) (k t : Nat) (value : Int) (w : World) (hl : ts.length ≤ 9223372036854775807) (hk : k < 8) (ht : t < ts.length)
    (hb : Blk w r 93 (rdCells (.slice T ts.length c) v op)) (B : Nat) (hB : B ≤ r) (cs : List Cl) (hcs : cs.length ≤ 1000) (ho : OwnCl w B v cs) (m : Nat) (hm : m < cs.length) (hop : op k = (m : Int) + 1)
    (hth : cs[m].thing = t) (hr : resB cs[m].kind value = true) :
    Calls Tryz.prog 47 #[.pointer (some ⟨r, 0, none⟩), .int .i64 i, .agg (Ev.enc ⟨k, t, 0, value⟩).toArray] w fun e w' => e = .returned (.int .i64 0) ∧
      Blk w' r 93 (rdCells (.slice T ts.length c) v (upz op k 0)) ∧ OwnCl w' B v (cs.set m { cs[m] with res := value, to := i }) ∧ Below B w w' := by
  simp only [evCells]
  have c0 := (hb.cell 0).trans (rdCells_0 _ _ _)
  have c2 := (hb.cell (2 + k)).trans (rdCells_at _ _ _ k hk)
  have l0 := hb.lt
  have hk0 : (0 : Int) ≤ k := by omega
  have hk8 : (k : Int) < 8 := by omega
  have ht0 : (0 : Int) ≤ t := by omega
  have ht8 : (t : Int) < ts.length := by omega
  have d1 : decide ((k : Int) < 0) = false := by simp
  have d2 : decide ((8 : Int) ≤ k) = false := by simp; omega
  have d3 : decide ((t : Int) < 0) = false := by simp
  have d4 : decide ((ts.length : Int) ≤ t) = false := by simp; omega
  have c1 := (hb.cell 1).trans (rdCells_1 _ _ _)
  have f2 := hb.frozen (2 + k)
  have hne := ho.ne hb (by decide)
  obtain ⟨g, cc, hv, hgB, hg, hc, hfz⟩ := ho.at_ Cl.len m hm
  have e1 := hc 1 _ rfl
  have e2 := hc 2 _ rfl
  have e4 := hc 4 _ rfl
  have e6 := hc 6 _ rfl
  have z4 := hfz (m * 7 + 4)
  have z6 := hfz (m * 7 + 6)
  have hgr : g ≠ r := by subst hv; simpa [Value.ownBlock] using hne
  rw [hv] at c1
  rw [hop] at c2
  rw [hth] at e1
  have hm1 : (m : Int) < (cs.length : Int) := by omega
  have hm2 : (cs.length : Int) ≤ 1000 := by omega
  have hm3 : (m : Int) + 1 ≠ 0 := by omega
  have hm4 : ((m : Int) + 1 == 0) = false := by simpa using hm3
  have d5 : (((t : Int) : Int) != t) = false := by simp
  have Hf := Lib.hid (And.intro hb (And.intro ho hne))
  have Hset : ∀ W, Own Cl.enc 7 36 W B v cs → Own Cl.enc 7 36 ((W.setCell ⟨g, m * 7 + 4, none⟩ (.int .i64 value)).setCell ⟨g, m * 7 + 6, none⟩ (.int .i64 i)) B v (cs.set m { cs[m] with res := value, to := i }) := by
    intro W h
    have h1 := h.set_ Cl.len m hm 4 (by omega) (.int .i64 value) { cs[m] with res := value } rfl hv
    have h2 := h1.set_ Cl.len m (by simpa using hm) 6 (by omega) (.int .i64 i) { cs[m] with res := value, to := i } (by simp [Cl.enc]) (by simpa using hv)
    simpa using h2
  have HH := Lib.hid Hset
  clear hb ho hc hfz hop hne hv Hset
  go_enter Tryz.func47, Tryz.ntmps47
  go_wp2_with (fail)
  go_quiet (fail)
  go_wp2_with (fail)
  go_quiet (fail)
  go_wp2_with (fail)
  go_quiet (first | (go_at_call 94; (first | exact Calls.quiet_of_same (result_is (by assumption) _) | exact Calls.quiet_same (result_is (by assumption) _))))
  go_wp2_with (fail)
  have hgr' : r ≠ g := fun e => hgr e.symm
  have hgw : g ≠ w.heap.size := by omega
  have hgw' : w.heap.size ≠ g := by omega
  have hrw : r ≠ w.heap.size := by omega
  · go_region
    go_wp2_with (fail)
    go_ret
    refine ⟨rfl, ?_, ?_, ?_⟩
    · rw [← rdCells_set _ _ _ _ hk]
      exact (((((Hf.out.1.alloc _).drewN _).far hgr' _).far hgr' _).set_ _ _)
    · exact Own.far (HH.out _ (Own.drewN (Own.alloc Hf.out.2.1 _) _)) (p := ⟨r, 2 + k, none⟩) Hf.out.2.2 _
    · (repeat (first | assumption | exact Below.refl _ _ | refine Below.drew ?_ | refine below_drewN' ?_ _ | refine Below.alloc ?_ (by first | omega | (simp; done) | (simp; omega)) _ | refine Below.setCell ?_ (by first | omega | (simp; done) | (simp; omega)) _))
end Go.Proofs.YtjdckepbihcgfaaGreatDoor

namespace Go.Proofs.YtjdckepbihcgfaaGreatDoor
open Go.RowKit

theorem nthV_rd (t v : Value) (op : Nat → Int) (i : Nat) (h : i < 8) : nthV (rdCells t v op).toList (2 + i) = some (.int .i64 (op i)) := by rw [← nthV_eq]; simpa using rdCells_at t v op i h
theorem rdCells_size (t v : Value) (op : Nat → Int) : (rdCells t v op).size = 10 := by simp [rdCells]
theorem Mem.ownUp {C : Ctx} {S : List Ent} {α : Type} {enc : α → List Value} {M et c : Nat} {ls : List α} {A : Option Addr} {w : World} {B : Nat} (hw : Mem C w S) (hF : ∀ g ∈ C.F, B ≤ g) (hB : B ≤ C.w0.heap.size) (hm : entOwn enc M et A c ls ∈ S) : Own enc M et w B (.slice A ls.length c) ls := by
  obtain ⟨ho, hb⟩ := hw.holds _ hm
  have ho' : Own enc M et w 0 (.slice A ls.length c) ls := ho
  refine ⟨ho'.1, ?_⟩
  rcases ho'.2 with hn | ⟨g, cap, cur, hv, _, rest⟩
  · exact .inl hn
  · refine .inr ⟨g, cap, cur, hv, ?_, rest⟩
    rcases (hb g (by show (Value.slice A ls.length c).ownBlock = some g; rw [hv]; rfl)).2 with h | h
    · exact hF g h
    · omega
theorem Keeps.upto {F : List Nat} {B : Nat} {w w' : World} (h : Keeps F w w') (hF : ∀ g ∈ F, B ≤ g) (hB : B ≤ w.heap.size) : Below B w w' :=
  ⟨h.os, h.tape, h.output, h.size, fun k hk => h.block k (by omega) (fun hm => by have := hF k hm; omega)⟩
set_option maxRecDepth 100000 in
set_option maxHeartbeats 8000000 in
theorem event_call_ok (r : Nat) (T : Option Addr) (c : Nat) (ts : List Int) (v : Value) (op : Nat → Int) (i : Int) (k t : Nat) (kind value : Int) (w : World) (hl : ts.length ≤ 9223372036854775807) (hk : k < 8) (ht : t < ts.length)
    (hb : Blk w r 93 (rdCells (.slice T ts.length c) v op)) (hT : RdInt w T ts) (B : Nat) (hB : B ≤ r) (cs : List Cl) (hcs : cs.length ≤ 1000) (ho : OwnCl w B v cs)
    (hkind : (kind != 0) = true) (hf : fitsB ts[t] kind = true) (ha : argB kind value = true) (hop : op k = 0) (hTB : ∀ b o, T = some ⟨b, o, none⟩ → b < B) :
    Calls Tryz.prog 47 #[.pointer (some ⟨r, 0, none⟩), .int .i64 i, .agg (Ev.enc ⟨k, t, kind, value⟩).toArray] w fun e w' => ∃ v', e = .returned (.int .i64 0) ∧
      Blk w' r 93 (rdCells (.slice T ts.length c) v' (upz op k (cs.length + 1))) ∧ OwnCl w' B v' (cs ++ [⟨k, t, kind, value, 0, i, -1⟩]) ∧ Below B w w' := by
  have hne := ho.ne hb (by decide)
  have hk0 : kind ≠ 0 := by simpa using hkind
  obtain ⟨A, d, rfl⟩ := Own.form ho
  obtain ⟨b, o, rfl, hb0⟩ := RdE.open hT (by omega)
  have hbB := hTB b o rfl
  have hFb : b ∉ r :: (Value.slice A cs.length d).ownBlock.toList := by
    intro h
    rcases List.mem_cons.1 h with h | h
    · omega
    · have := (World.ownsRow.lt ho b (by simpa using h)).1
      omega
  refine calls_T (S := [entBlk r 93 (rdCells (.slice (some ⟨b, o, none⟩) ts.length c) (.slice A cs.length d) op), entOwn Cl.enc 7 36 A d cs]) (r :: (Value.slice A cs.length d).ownBlock.toList)
    Tryz.func47 rfl Tryz.ntmps47 (by simp) ?_ ?_
  · refine ⟨Keeps.refl _ _, ?_, ?_⟩
    · intro e he
      rcases List.mem_cons.1 he with rfl | he
      · exact ⟨hb, fun g hg => by cases hg; exact ⟨hb.lt, .inl (by simp)⟩⟩
      · obtain rfl := List.mem_singleton.1 he
        exact ⟨ho.base, fun g hg => by
          have hg' : (Value.slice A cs.length d).ownBlock = some g := hg
          exact ⟨(World.ownsRow.lt ho g hg').2, .inl (List.mem_cons_of_mem _ (by simp [hg']))⟩⟩
    · refine List.pairwise_cons.2 ⟨fun f hf g hg hg' => ?_, List.pairwise_singleton _ _⟩
      obtain rfl := List.mem_singleton.1 hf
      cases hg
      exact hne hg'
  repeat' (first | ((first | with_reducible (first | apply TL_q | apply TD_q0 | apply TD_q1 | apply TD_q2 | apply TD_q3) | ((with_reducible (first | apply TD_q0y | apply TD_q1y)); exact rfl; exact rfl; (with_reducible exact rfl))); (first | exact QS.auto | ((with_reducible apply QS_load); exact rfl; (first | exact Lds.blk Zm (nthV_rd _ _ _ _ (by omega)) | exact Lds.rd1 (by assumption) (by exact hFb) (by first | assumption | omega) rfl))); exact rfl) | ((with_reducible (first | apply TD_e2z | apply TD_e3z | apply TL_e | apply TD_e2 | apply TD_e3)); (first | exact ES.auto | ((with_reducible apply ES_store); exact rfl; exact rfl; exact Zu; (first | exact rdCells_setv _ _ _ _ | exact rdCells_set _ _ _ _ (by omega) _); (first | (simp only [rdCells_size]; omega) | (simp [rdCells_size]; done) | (simp [rdCells_size]; omega)); exact rfl)); (first | exact rfl | exact ⟨rfl, rfl, rfl⟩); (first | rintro _ _ ⟨rfl, rfl⟩ | rintro _ _ ⟨g, rfl, rfl⟩ | rintro _ _ ⟨A', c', rfl, rfl⟩); (try refine ⟨SUB, ?_⟩)) | refine GG ?_ | (refine GE ?_; (first | rintro _ _ ⟨rfl, rfl⟩ | rintro _ _ ⟨g, rfl, rfl⟩ | rintro _ _ ⟨A', c', rfl, rfl⟩); (try refine ⟨SUB, ?_⟩)) | ((refine GO2 ?_ ?_) <;> intro h <;> (try dsimp only at h) <;> (try (repeat (first | with_reducible (replace h := of_decide_eq_true h) | with_reducible (replace h := of_decide_eq_false h) | with_reducible (replace h := bnt h) | with_reducible (replace h := bnf h) | with_reducible (replace h := Int.not_lt.mp h) | with_reducible (replace h := Int.not_le.mp h) | with_reducible (replace h := band_dec h) | with_reducible (replace h := band_decF h) | with_reducible (replace h := bor_dec h) | with_reducible (replace h := bor_decF h)))) <;> (try exact Zx)) | refine GOF ?_ ?_ | ((with_reducible apply T_draw (id := 1) 1000 (OT.seq [(0, 0), (1, 1), (0, 2), (0, 3), (0, 4), (1, 5), (0, 6), (0, 7), (0, 8), (0, 9), (1, 10), (0, 11), (0, 12), (0, 13), (0, 14), (0, 16), (0, 17), (0, 18), (1, 15), (1, 19), (0, 20), (0, 21), (0, 22)] .nil)); kernel_rfl; exact rfl; kernel_rfl; (repeat (first | with_reducible exact Blind.body | with_reducible apply Blind.seq | with_reducible apply Blind.block))) | ((with_reducible apply T_draw (id := 3) 1000 (OT.seq [(0, 0), (0, 1), (0, 3), (0, 4), (1, 2), (0, 5), (1, 6), (0, 7)] .nil)); kernel_rfl; exact rfl; kernel_rfl; (repeat (first | with_reducible exact Blind.body | with_reducible apply Blind.seq | with_reducible apply Blind.block))) | ((with_reducible apply T_draw (id := 5) 1000 (OT.seq [(0, 0), (0, 1), (0, 2), (0, 4), (0, 8), (1, 3), (1, 5), (0, 6), (1, 7), (1, 9), (2, 10), (0, 11), (0, 12), (0, 13), (0, 15), (1, 14), (1, 16), (2, 17), (0, 18), (0, 19), (0, 20)] .nil)); kernel_rfl; exact rfl; kernel_rfl; (repeat (first | with_reducible exact Blind.body | with_reducible apply Blind.seq | with_reducible apply Blind.block))) | ((with_reducible apply T_draw (id := 9) 16 (OT.seq [(0, 0), (0, 1), (0, 2), (0, 3), (0, 5), (0, 7), (0, 9), (0, 11), (0, 13), (1, 4), (1, 6), (1, 8), (1, 10), (1, 12), (0, 14), (2, 15), (3, 16), (0, 17), (0, 18), (3, 19)] .nil)); kernel_rfl; exact rfl; kernel_rfl; (repeat (first | with_reducible exact Blind.body | with_reducible apply Blind.seq | with_reducible apply Blind.block))) | ((with_reducible apply T_draw (id := 10) 11 (OT.seq [(0, 0), (0, 1), (0, 3), (0, 4), (0, 5), (0, 8), (0, 9), (1, 2), (1, 6), (0, 7), (0, 10), (3, 11)] .nil)); kernel_rfl; exact rfl; kernel_rfl; (repeat (first | with_reducible exact Blind.body | with_reducible apply Blind.seq | with_reducible apply Blind.block))) | ((with_reducible apply T_draw (id := 15) 1000 (OT.seq [(0, 0), (0, 1), (0, 2), (0, 4), (1, 3), (1, 5), (0, 6), (0, 7), (0, 8), (0, 9), (0, 10), (0, 12), (1, 11), (1, 13), (2, 14), (0, 15), (0, 16)] .nil)); kernel_rfl; exact rfl; kernel_rfl; (repeat (first | with_reducible exact Blind.body | with_reducible apply Blind.seq | with_reducible apply Blind.block))) | ((with_reducible apply T_draw (id := 18) 6 (OT.seq [(0, 0), (0, 1), (0, 3), (0, 4), (1, 2), (0, 5), (3, 6)] .nil)); kernel_rfl; exact rfl; kernel_rfl; (repeat (first | with_reducible exact Blind.body | with_reducible apply Blind.seq | with_reducible apply Blind.block))) | ((with_reducible (first | apply TD_e2z | apply TD_e3z | apply TL_e | apply TD_e2 | apply TD_e3)); ((with_reducible apply ES_callV); exact rfl; (intro w hw; exact Calls.same_below (fits_any _ _ _)); exact rfl); (first | exact rfl | exact ⟨rfl, rfl, rfl⟩); (rintro _ _ ⟨rfl, rfl⟩); (try refine ⟨SUB, ?_⟩)) | ((with_reducible (first | apply TD_e2z | apply TD_e3z | apply TL_e | apply TD_e2 | apply TD_e3)); ((with_reducible apply ES_callV); exact rfl; (intro w hw; exact Calls.same_below (argument_any _ _ _)); exact rfl); (first | exact rfl | exact ⟨rfl, rfl, rfl⟩); (rintro _ _ ⟨rfl, rfl⟩); (try refine ⟨SUB, ?_⟩)) | ((with_reducible (first | apply TD_e2z | apply TD_e3z | apply TL_e | apply TD_e2 | apply TD_e3)); ((with_reducible apply ES_append (enc := Cl.enc) (xs := [(⟨k, t, kind, value, 0, i, -1⟩ : Cl)])); exact rfl; exact rfl; exact Lies.blk Zm; exact fun _ => rfl; exact fun _ => rfl; (intro A' c'; first | ((repeat (first | with_reducible exact Upd.here _ _ _ | with_reducible apply Upd.there)); done) | (repeat (first | exact Upd.here _ _ _ | apply Upd.there))); (simp; omega); decide; exact rfl); (first | exact rfl | exact ⟨rfl, rfl, rfl⟩); (rintro _ _ ⟨A', c', rfl, rfl⟩); (try refine ⟨SUB, ?_⟩)))
  · exfalso
    have h1 : fitsB ts[t] kind = false := by assumption
    rw [hf] at h1; cases h1
  · exfalso
    have h1 : argB kind value = false := by assumption
    rw [ha] at h1; cases h1
  · (refine At_ret Tryz.results47 rfl (fun w' hw => ?_))
    have hF : ∀ g ∈ r :: (Value.slice A cs.length d).ownBlock.toList, B ≤ g := by
      intro g hg
      rcases List.mem_cons.1 hg with rfl | hg
      · exact hB
      · exact (World.ownsRow.lt ho g (by simpa using hg)).1
    have hBw : B ≤ w.heap.size := by have := hb.lt; omega
    have hb' := (hw.holds (entBlk r 93 _) Zm).1
    refine ⟨_, rfl, ?_, hw.ownUp hF hBw Zm, hw.keeps.upto hF hBw⟩
    have e : (((cs ++ [(⟨k, t, kind, value, 0, i, -1⟩ : Cl)]).length : Nat) : Int) = (cs.length : Int) + 1 := by simp
    rw [← e]
    exact hb'
end Go.Proofs.YtjdckepbihcgfaaGreatDoor

namespace Go.Proofs.YtjdckepbihcgfaaGreatDoor
open Go.RowKit

/-- one step of the reader: the error, the calls so far, who is open (1 more than the number of the call) -/
def evP (ts : List Int) (cs : List Cl) (op : Nat → Int) (i : Int) (x : Ev) : Int × List Cl × (Nat → Int) :=
  if formBad ts x = true then (3, cs, op)
  else if x.kind ≠ 0 then
    if (fitsB (ts.getD x.thing.toNat 0) x.kind && argB x.kind x.value) = false then (3, cs, op)
    else if 0 < op x.who.toNat then (5, cs, op)
    else (0, cs ++ [⟨x.who, x.thing, x.kind, x.value, 0, i, -1⟩], upz op x.who.toNat (cs.length + 1))
  else if op x.who.toNat = 0 then (4, cs, op)
  else if (cs.getD (op x.who.toNat - 1).toNat default).thing = x.thing ∧ resB (cs.getD (op x.who.toNat - 1).toNat default).kind x.value = true then
    (0, cs.set (op x.who.toNat - 1).toNat { cs.getD (op x.who.toNat - 1).toNat default with res := x.value, to := i }, upz op x.who.toNat 0)
  else (3, cs, op)
def OpOk (cs : List Cl) (op : Nat → Int) : Prop := ∀ k, k < 8 → 0 ≤ op k ∧ op k ≤ cs.length
theorem evP_ok {ts : List Int} {cs : List Cl} {op : Nat → Int} {i : Int} {x : Ev} (h : OpOk cs op) : OpOk (evP ts cs op i x).2.1 (evP ts cs op i x).2.2 := by
  unfold evP
  repeat' split
  all_goals first | exact h | skip
  · intro k hk
    have := h k hk
    simp only [upz, List.length_append, List.length_singleton]
    split <;> omega
  · intro k hk
    have := h k hk
    simp only [upz, List.length_set]
    split <;> omega

theorem event_any (r : Nat) (T : Option Addr) (c : Nat) (ts : List Int) (v : Value) (op : Nat → Int) (i : Int) (x : Ev) (w : World) (hl : ts.length ≤ 9223372036854775807)
    (hb : Blk w r 93 (rdCells (.slice T ts.length c) v op)) (hT : RdInt w T ts) (B : Nat) (hB : B ≤ r) (cs : List Cl) (hcs : cs.length ≤ 1000) (ho : OwnCl w B v cs) (hop : OpOk cs op) (hTB : 0 < ts.length → ∀ b o, T = some ⟨b, o, none⟩ → b < B) :
    Calls Tryz.prog 47 #[.pointer (some ⟨r, 0, none⟩), .int .i64 i, .agg (Ev.enc x).toArray] w fun e w' => ∃ v', e = .returned (.int .i64 (evP ts cs op i x).1) ∧
      ((evP ts cs op i x).1 = 0 → Blk w' r 93 (rdCells (.slice T ts.length c) v' (evP ts cs op i x).2.2) ∧ OwnCl w' B v' (evP ts cs op i x).2.1) ∧ Below B w w' := by
  have hBw : B ≤ w.heap.size := by have := hb.lt; omega
  have bad : ∀ z : Int, z ≠ 0 → (evP ts cs op i x).1 = z → (Calls Tryz.prog 47 #[.pointer (some ⟨r, 0, none⟩), .int .i64 i, .agg (Ev.enc x).toArray] w fun e w' => e = .returned (.int .i64 z) ∧ Below w.heap.size w w') →
      Calls Tryz.prog 47 #[.pointer (some ⟨r, 0, none⟩), .int .i64 i, .agg (Ev.enc x).toArray] w fun e w' => ∃ v', e = .returned (.int .i64 (evP ts cs op i x).1) ∧
      ((evP ts cs op i x).1 = 0 → Blk w' r 93 (rdCells (.slice T ts.length c) v' (evP ts cs op i x).2.2) ∧ OwnCl w' B v' (evP ts cs op i x).2.1) ∧ Below B w w' := by
    intro z hz he hc
    refine hc.mono fun e w' ⟨h1, h2⟩ => ⟨v, ?_, fun h => absurd (he.symm.trans h) hz, h2.mono hBw⟩
    rw [h1, he]
  by_cases hf : formBad ts x = true
  · exact bad 3 (by decide) (by simp [evP, hf]) (event_form r T c ts v op i x w hl hb hf)
  · obtain ⟨who, thing, kind, value⟩ := x
    have hff := hf
    simp only [formBad, Bool.not_eq_true', Bool.not_eq_false', decide_eq_true_eq, decide_eq_false_iff_not, Bool.and_eq_true, Bool.or_eq_true, Bool.or_eq_false_iff, Bool.and_eq_false_iff, not_or, Int.not_lt, Int.not_le] at hff
    obtain ⟨⟨⟨q1, q2⟩, q3⟩, q4⟩ := hff
    obtain ⟨k, rfl⟩ := Int.eq_ofNat_of_zero_le q1
    obtain ⟨t, rfl⟩ := Int.eq_ofNat_of_zero_le q3
    have hk : k < 8 := by omega
    have ht : t < ts.length := by omega
    have hg : ts.getD t 0 = ts[t] := by simp [ht]
    have hok := hop k hk
    by_cases hkind : kind = 0
    · subst hkind
      by_cases h0 : op k = 0
      · exact bad 4 (by decide) (by simp [evP, hf, h0]) (event_none r T c ts v op i k t value w hl hk ht hb h0)
      · obtain ⟨m, hm⟩ : ∃ m : Nat, op k = (m : Int) + 1 := ⟨(op k - 1).toNat, by omega⟩
        have hmc : m < cs.length := by omega
        have hd : cs.getD m default = cs[m] := by simp [hmc]
        by_cases hth : cs[m].thing = t ∧ resB cs[m].kind value = true
        · have e : evP ts cs op i ⟨k, t, 0, value⟩ = (0, cs.set m { cs[m] with res := value, to := i }, upz op k 0) := by
            simp [evP, hf, hm, hmc, hth, show ¬ (m : Int) + 1 = 0 by omega]
          rw [e]
          exact (event_end_ok r T c ts v op i k t value w hl hk ht hb B hB cs hcs ho m hmc hm hth.1 hth.2).mono fun e w' ⟨h1, h2, h3, h4⟩ => ⟨v, h1, fun _ => ⟨h2, h3⟩, h4⟩
        · refine bad 3 (by decide) (by simp [evP, hf, hm, hmc, hth, show ¬ (m : Int) + 1 = 0 by omega]) (event_end_bad r T c ts v op i k t value w hl hk ht hb B cs hcs ho m hmc hm fun h => ?_)
          cases hr : resB cs[m].kind value
          · rfl
          · exact absurd ⟨h, hr⟩ hth
    · by_cases hfa : (fitsB ts[t] kind && argB kind value) = true
      · have hfa' : fitsB ts[t] kind = true ∧ argB kind value = true := by simpa using hfa
        by_cases h0 : 0 < op k
        · exact bad 5 (by decide) (by simp [evP, hf, hkind, ht, hfa', h0]) (event_twice r T c ts v op i k t kind value w hl hk ht hb hT (by simpa using hkind) hfa'.1 hfa'.2 h0)
        · have e : evP ts cs op i ⟨k, t, kind, value⟩ = (0, cs ++ [⟨k, t, kind, value, 0, i, -1⟩], upz op k (cs.length + 1)) := by
            simp [evP, hf, hkind, ht, hfa', h0]
          rw [e]
          exact (event_call_ok r T c ts v op i k t kind value w hl hk ht hb hT B hB cs hcs ho (by simpa using hkind) hfa'.1 hfa'.2 (by omega) (hTB (by omega))).mono fun e w' ⟨v', h1, h2, h3, h4⟩ => ⟨v', h1, fun _ => ⟨h2, h3⟩, h4⟩
      · have hfb : (fitsB ts[t] kind && argB kind value) = false := by simpa using hfa
        exact bad 3 (by decide) (by simp only [evP, if_neg hf, Int.toNat_natCast, hg, hfb]; simp [hkind]) (event_call_bad r T c ts v op i k t kind value w hl hk ht hb hT (by simpa using hkind) hfb)
instance : Inhabited Ev := ⟨⟨0, 0, 0, 0⟩⟩
def stP (ts : List Int) (l : List Ev) : Nat → List Cl × (Nat → Int)
  | 0 => ([], fun _ => 0)
  | k + 1 => (evP ts (stP ts l k).1 (stP ts l k).2 k (l.getD k default)).2
def erP (ts : List Int) (l : List Ev) (k : Nat) : Int := (evP ts (stP ts l k).1 (stP ts l k).2 k (l.getD k default)).1
theorem stP_ok (ts : List Int) (l : List Ev) : ∀ k, OpOk (stP ts l k).1 (stP ts l k).2
  | 0 => fun k hk => by simp [stP]
  | k + 1 => evP_ok (stP_ok ts l k)
theorem evP_len (ts : List Int) (cs : List Cl) (op : Nat → Int) (i : Int) (x : Ev) : (evP ts cs op i x).2.1.length ≤ cs.length + 1 := by
  unfold evP
  repeat' split
  all_goals simp
theorem stP_len (ts : List Int) (l : List Ev) : ∀ k, (stP ts l k).1.length ≤ k
  | 0 => by simp [stP]
  | k + 1 => by have := stP_len ts l k; have := evP_len ts (stP ts l k).1 (stP ts l k).2 k (l.getD k default); simp only [stP]; omega
/-- the first event that can't be read (their number: there is none) -/
def failP (ts : List Int) (l : List Ev) : Nat := ((List.range l.length).find? fun k => decide (erP ts l k ≠ 0)).getD l.length
def callsP (ts : List Int) (l : List Ev) : List Cl × Int × Int :=
  if typesE ts ≠ 0 then ([], 0, typesE ts)
  else if 200 < l.length then ([], 0, 2)
  else if failP ts l < l.length then ([], failP ts l, erP ts l (failP ts l))
  else ((stP ts l l.length).1, 0, 0)
theorem failP_at {ts : List Int} {l : List Ev} {k : Nat} (hk : k < l.length) (h : ∀ j, j < k → erP ts l j = 0) (he : erP ts l k ≠ 0) : failP ts l = k := by
  unfold failP
  have : (List.range l.length).find? (fun k => decide (erP ts l k ≠ 0)) = some k := by
    rw [List.find?_range_eq_some]
    exact ⟨by simpa using he, by simpa using hk, fun j hj => by simp [h j hj]⟩
  rw [this]; rfl
theorem failP_none {ts : List Int} {l : List Ev} (h : ∀ j, j < l.length → erP ts l j = 0) : failP ts l = l.length := by
  unfold failP
  have : (List.range l.length).find? (fun k => decide (erP ts l k ≠ 0)) = none := by
    rw [List.find?_eq_none]
    intro j hj
    simp [h j (by simpa using hj)]
  rw [this]; rfl

theorem RdEv.at_ {w wr : World} {A : Option Addr} {l : List Ev} (h : RdEv w A l) (hb : Below w.heap.size w wr) (k : Nat) (hk : k < l.length) :
    ∃ b o, A = some ⟨b, o, none⟩ ∧ b < w.heap.size ∧ b < wr.heap.size ∧ wr.cell? ⟨b, o + k * 4, none⟩ = some (.int .i64 l[k].who) ∧ wr.cell? ⟨b, o + k * 4 + 1, none⟩ = some (.int .i64 l[k].thing) ∧ wr.cell? ⟨b, o + k * 4 + 2, none⟩ = some (.int .i64 l[k].kind) ∧ wr.cell? ⟨b, o + k * 4 + 3, none⟩ = some (.int .i64 l[k].value) := by
  obtain ⟨b, o, h1, h2, h3, h4⟩ := RdE.at_ h hb k hk
  exact ⟨b, o, h1, h2, h3, h4 0 _ rfl, h4 1 _ rfl, h4 2 _ rfl, h4 3 _ rfl⟩

set_option maxHeartbeats 2000000 in
theorem calls_any (T A : Option Addr) (ct c : Nat) (ts : List Int) (l : List Ev) (w : World) (hts : ts.length ≤ 9223372036854775807) (hl : l.length ≤ 9223372036854775807) (hT : RdInt w T ts) (hA : RdEv w A l) :
    Calls Tryz.prog 12 #[.slice T ts.length ct, .slice A l.length c] w fun e w' => ∃ A' c', e = .returned (.tuple #[.slice A' (callsP ts l).1.length c', .int .i64 (callsP ts l).2.1, .int .i64 (callsP ts l).2.2]) ∧ OwnCl w' w.heap.size (.slice A' (callsP ts l).1.length c') (callsP ts l).1 ∧ Below w.heap.size w w' := by
  by_cases hty : typesE ts = 0
  · by_cases h2 : 200 < l.length
    · have he : callsP ts l = ([], 0, 2) := by simp [callsP, hty, h2]
      have He := Lib.hid he
      clear he
      go_enter Tryz.func12, Tryz.ntmps12
      go_wp2_with (go_at_call 46; refine (types_any _ _ _ _ hts hT).mono ?_; rintro e w1 ⟨rfl, hb1⟩; rw [hty])
      go_ret3
      rw [He.out]
      exact ⟨none, 0, rfl, Own.nil _ _, hb1⟩
    · have hl2 : l.length ≤ 200 := by omega
      have Hty := Lib.hid hty
      clear h2
      have hTB : Hid (0 < ts.length → ∀ b o, T = some ⟨b, o, none⟩ → b < w.heap.size) := Lib.hid fun h b o e => by
        obtain ⟨b', o', h1, h2⟩ := hT.open h
        rw [e] at h1; cases h1; exact h2
      go_enter Tryz.func12, Tryz.ntmps12
      go_wp2_with (go_at_call 46; refine (types_any _ _ _ _ hts hT).mono ?_; rintro e w1 ⟨rfl, hb1⟩; rw [hty])
      have hs1 := hb1.size
      go_loopw [25] (fun i wr => ∃ (k : Nat) (v : Value), k ≤ l.length ∧ i = .int .i64 k ∧ Hid (∀ j, j < k → erP ts l j = 0) ∧ Blk wr w1.heap.size 93 (rdCells (.slice T ts.length ct) v (stP ts l k).2) ∧ OwnCl wr w.heap.size v (stP ts l k).1 ∧ Below w.heap.size w wr) (fun i _ => l.length - (intOf i).toNat)
      case atStart => exact ⟨0, _, by omega, rfl, Lib.hid (by omega), Blk.new _ _ _, Own.nil _ _, by (repeat (first | assumption | exact Below.refl _ _ | refine bel_alloc ?_ _ | refine Below.drew ?_ | refine below_drewN' ?_ _ | (refine bel_set ?_ (by first | (simp; done) | (simp; omega)) _) | (refine bel_row ?_ (by first | (simp; done) | (simp; omega)) _)))⟩
      case round =>
        obtain ⟨k, v, hk, rfl, hno, hblk, hown, hbel⟩ := hrel
        have hlen := stP_len ts l k
        by_cases hlt : k < l.length
        · obtain ⟨b, o, rfl, hb0, hbs, c0, c1, c2, c3⟩ := hA.at_ hbel k hlt
          have hg : l.getD k default = l[k] := by simp [hlt]
          have a5 := hblk.lt
          by_cases he : erP ts l k = 0
          · have hev : (evP ts (stP ts l k).1 (stP ts l k).2 k l[k]).1 = 0 := by rw [← hg]; exact he
            have Hev := Lib.hid hev
            have He := Lib.hid he
            clear hev he
            go_wp2_with (go_at_call 47; refine (event_any _ T ct ts v (stP ts l k).2 k l[k] _ hts (hblk.alloc _) (RdE.below hT (by (repeat (first | assumption | exact Below.refl _ _ | refine bel_alloc ?_ _ | refine Below.drew ?_ | refine below_drewN' ?_ _ | (refine bel_set ?_ (by first | (simp; done) | (simp; omega)) _) | (refine bel_row ?_ (by first | (simp; done) | (simp; omega)) _))))) w.heap.size (by omega) (stP ts l k).1 (by omega) (Own.alloc hown _) (stP_ok ts l k) hTB.out).mono ?_; rintro e w2 ⟨v', he', hst, hbw⟩; rw [Hev.out] at he'; subst he')
            go_roundw
            case rel =>
              have h2 := hst Hev.out
              refine ⟨k + 1, v', by omega, by go_num, Lib.hid (fun j hj => ?_), ?_, ?_, ?_⟩
              · by_cases e : j = k
                · subst e; exact He.out
                · exact hno.out j (by omega)
              · simp only [stP, hg]; exact h2.1
              · simp only [stP, hg]; exact h2.2
              · exact (bel_alloc hbel _).trans hbw
            case measure => simp [intOf]; omega
          · have hev : (evP ts (stP ts l k).1 (stP ts l k).2 k l[k]).1 = erP ts l k := by rw [← hg]; rfl
            have hn : (erP ts l k != 0) = true := by simpa using he
            have hcp : callsP ts l = ([], (k : Int), erP ts l k) := by
              have hf := failP_at hlt hno.out he
              simp only [callsP, Hty.out, hf]
              rw [if_neg (by simp), if_neg (by omega), if_pos hlt]
            have Hev := Lib.hid hev
            have Hcp := Lib.hid hcp
            clear hev hcp he
            go_wp2_with (go_at_call 47; refine (event_any _ T ct ts v (stP ts l k).2 k l[k] _ hts (hblk.alloc _) (RdE.below hT (by (repeat (first | assumption | exact Below.refl _ _ | refine bel_alloc ?_ _ | refine Below.drew ?_ | refine below_drewN' ?_ _ | (refine bel_set ?_ (by first | (simp; done) | (simp; omega)) _) | (refine bel_row ?_ (by first | (simp; done) | (simp; omega)) _))))) w.heap.size (by omega) (stP ts l k).1 (by omega) (Own.alloc hown _) (stP_ok ts l k) hTB.out).mono ?_; rintro e w2 ⟨v', he', hst, hbw⟩; rw [Hev.out] at he'; subst he')
            go_ret3
            rw [Hcp.out]
            exact ⟨none, 0, rfl, Own.nil _ _, (bel_alloc hbel _).trans hbw⟩
        · obtain rfl : k = l.length := by omega
          have hcp : callsP ts l = ((stP ts l l.length).1, 0, 0) := by
            have hf := failP_none hno.out
            simp only [callsP, Hty.out, hf]
            rw [if_neg (by simp), if_neg (by omega), if_neg (by omega)]
          have Hcp := Lib.hid hcp
          obtain ⟨A', c', rfl⟩ := Own.form hown
          have d0 := (hblk.cell 1).trans (rdCells_1 _ _ _)
          have a5 := hblk.lt
          clear hcp
          go_wp2_with (fail)
          go_ret3
          rw [Hcp.out]
          exact ⟨A', c', rfl, hown, hbel⟩
  · have he : callsP ts l = ([], 0, typesE ts) := by simp [callsP, hty]
    have He := Lib.hid he
    have hn : (typesE ts != 0) = true := by simpa using hty
    clear he hty
    go_enter Tryz.func12, Tryz.ntmps12
    go_wp2_with (go_at_call 46; refine (types_any _ _ _ _ hts hT).mono ?_; rintro e w1 ⟨rfl, hb1⟩)
    go_ret3
    rw [He.out]
    exact ⟨none, 0, rfl, Own.nil _ _, hb1⟩
end Go.Proofs.YtjdckepbihcgfaaGreatDoor

namespace Go.Proofs.YtjdckepbihcgfaaGreatDoor
open Go.RowKit

/-- the last of the first q calls that is somebody's and open (-1: none) -/
def openTo (cs : List Cl) (who : Int) : Nat → Int
  | 0 => -1
  | q + 1 => if (cs.getD q default).who = who ∧ (cs.getD q default).to = -1 then (q : Int) else openTo cs who q
theorem openTo_lt (cs : List Cl) (who : Int) : ∀ q, -1 ≤ openTo cs who q ∧ openTo cs who q < q
  | 0 => by simp [openTo]
  | q + 1 => by
    have := openTo_lt cs who q
    rw [openTo]
    split <;> omega
/-- one step of the document's reading -/
def evR (ts : List Int) (cs : List Cl) (i : Int) (x : Ev) : Int × List Cl :=
  if formBad ts x = true then (3, cs)
  else if x.kind = 0 then
    if openTo cs x.who cs.length < 0 then (4, cs)
    else if (cs.getD (openTo cs x.who cs.length).toNat default).thing = x.thing ∧ ansB (cs.getD (openTo cs x.who cs.length).toNat default).kind x.value = true then
      (0, cs.set (openTo cs x.who cs.length).toNat { cs.getD (openTo cs x.who cs.length).toNat default with res := x.value, to := i })
    else (3, cs)
  else if ((kindsL (ts.getD x.thing.toNat 0)).contains x.kind && argB x.kind x.value) = false then (3, cs)
  else if 0 ≤ openTo cs x.who cs.length then (5, cs)
  else (0, cs ++ [⟨x.who, x.thing, x.kind, x.value, 0, i, -1⟩])
def stR (ts : List Int) (l : List Ev) : Nat → List Cl
  | 0 => []
  | k + 1 => (evR ts (stR ts l k) k (l.getD k default)).2
def erR (ts : List Int) (l : List Ev) (k : Nat) : Int := (evR ts (stR ts l k) k (l.getD k default)).1

/-- what is so of the reader's state: those that are open are each one call's, the last of theirs -/
def StOk (cs : List Cl) (op : Nat → Int) : Prop :=
  (∀ k : Nat, k < 8 → openTo cs (k : Int) cs.length = op k - 1) ∧ (∀ c, c ∈ cs → 1 ≤ c.kind ∧ c.kind ≤ 10) ∧
  ∀ i j, (hi : i < cs.length) → (hj : j < cs.length) → cs[i].who = cs[j].who → cs[i].to = -1 → cs[j].to = -1 → i = j
theorem openTo_congr {cs ds : List Cl} {who : Int} : ∀ q, (∀ j, j < q → ((cs.getD j default).who = who ∧ (cs.getD j default).to = -1 ↔ (ds.getD j default).who = who ∧ (ds.getD j default).to = -1)) → openTo cs who q = openTo ds who q
  | 0, _ => rfl
  | q + 1, h => by
    rw [openTo, openTo, openTo_congr q fun j hj => h j (by omega)]
    have := h q (by omega)
    by_cases e : (cs.getD q default).who = who ∧ (cs.getD q default).to = -1
    · rw [if_pos e, if_pos (this.1 e)]
    · rw [if_neg e, if_neg fun e' => e (this.2 e')]
theorem openTo_none {cs : List Cl} {who : Int} : ∀ q, (∀ j, j < q → ¬ ((cs.getD j default).who = who ∧ (cs.getD j default).to = -1)) → openTo cs who q = -1
  | 0, _ => rfl
  | q + 1, h => by rw [openTo, if_neg (h q (by omega)), openTo_none q fun j hj => h j (by omega)]
theorem openTo_at {cs : List Cl} {who : Int} : ∀ q, openTo cs who q ≠ -1 → ∃ m : Nat, openTo cs who q = m ∧ m < q ∧ (cs.getD m default).who = who ∧ (cs.getD m default).to = -1
  | 0, h => absurd rfl h
  | q + 1, h => by
    rw [openTo] at h ⊢
    by_cases e : (cs.getD q default).who = who ∧ (cs.getD q default).to = -1
    · rw [if_pos e]
      exact ⟨q, rfl, by omega, e⟩
    · rw [if_neg e] at h ⊢
      obtain ⟨m, h1, h2, h3⟩ := openTo_at q h
      exact ⟨m, h1, by omega, h3⟩
theorem openTo_some {cs : List Cl} {who : Int} {j : Nat} : ∀ q, j < q → (cs.getD j default).who = who ∧ (cs.getD j default).to = -1 → openTo cs who q ≠ -1
  | 0, h, _ => by omega
  | q + 1, h, hj => by
    rw [openTo]
    by_cases e : (cs.getD q default).who = who ∧ (cs.getD q default).to = -1
    · rw [if_pos e]; omega
    · rw [if_neg e]
      have : j ≠ q := fun e' => e (e' ▸ hj)
      exact openTo_some q (by omega) hj
theorem stOk_push {cs : List Cl} {op : Nat → Int} {k : Nat} {c : Cl} (hs : StOk cs op) (hk : op k = 0) (hk8 : k < 8) (hw : c.who = k) (ht : c.to = -1) (h1 : 1 ≤ c.kind ∧ c.kind ≤ 10) : StOk (cs ++ [c]) (upz op k (cs.length + 1)) := by
  obtain ⟨a1, a2, a3⟩ := hs
  have hl : (cs ++ [c]).getD cs.length default = c := by simp
  have ho : ∀ j, j < cs.length → (cs ++ [c]).getD j default = cs.getD j default := fun j hj => by simp [hj, List.getElem?_append_left hj]
  have hno : ∀ j (hj : j < cs.length), cs[j].who = k → cs[j].to = -1 → False := fun j hj e1 e2 =>
    openTo_some (cs := cs) (who := k) cs.length hj (by simp [hj, e1, e2]) (by rw [a1 k hk8, hk]; rfl)
  refine ⟨fun k' hk' => ?_, fun x hx => ?_, fun i j hi hj e1 e2 e3 => ?_⟩
  · rw [List.length_append, List.length_singleton, openTo, hl, hw, ht]
    by_cases e : k' = k
    · subst e
      rw [if_pos ⟨rfl, rfl⟩]
      simp [upz]
    · rw [if_neg (by intro h; exact e (by have := h.1; omega)), openTo_congr (ds := cs) _ (fun j hj => by rw [ho j hj]), a1 k' hk']
      simp [upz, e]
  · rcases List.mem_append.1 hx with h | h
    · exact a2 x h
    · rw [List.mem_singleton.1 h]; exact h1
  · simp only [List.length_append, List.length_singleton] at hi hj
    rcases Nat.lt_or_ge i cs.length with h | h <;> rcases Nat.lt_or_ge j cs.length with h' | h'
    · simp only [List.getElem_append_left h, List.getElem_append_left h'] at e1 e2 e3
      exact a3 i j h h' e1 e2 e3
    · obtain rfl : j = cs.length := by omega
      simp only [List.getElem_append_left h, List.getElem_concat_length] at e1 e2
      exact absurd (hno i h (by rw [e1, hw]) e2) id
    · obtain rfl : i = cs.length := by omega
      simp only [List.getElem_append_left h', List.getElem_concat_length] at e1 e3
      exact absurd (hno j h' (by rw [← e1, hw]) e3) id
    · omega
theorem stOk_set {cs : List Cl} {op : Nat → Int} {k m : Nat} {v i : Int} (hs : StOk cs op) (hk8 : k < 8) (hm : m < cs.length) (hop : op k = (m : Int) + 1) (hi : 0 ≤ i) : StOk (cs.set m { cs[m] with res := v, to := i }) (upz op k 0) := by
  obtain ⟨a1, a2, a3⟩ := hs
  obtain ⟨m', h1, h2, h3, h4⟩ := openTo_at (cs := cs) (who := k) cs.length (by rw [a1 k hk8, hop]; omega)
  obtain rfl : m' = m := by have := a1 k hk8; rw [h1, hop] at this; omega
  have hd : cs.getD m' default = cs[m'] := by simp [hm]
  rw [hd] at h3 h4
  have ho : ∀ j, j ≠ m' → (cs.set m' { cs[m'] with res := v, to := i }).getD j default = cs.getD j default := fun j hj => by
    simp only [List.getD_eq_getElem?_getD, List.getElem?_set]
    rw [if_neg (fun e => hj e.symm)]
  have hn : (cs.set m' { cs[m'] with res := v, to := i }).getD m' default = { cs[m'] with res := v, to := i } := by simp [hm]
  have hto : ¬ i = -1 := by omega
  refine ⟨fun k' hk' => ?_, fun x hx => ?_, fun p q hp hq e1 e2 e3 => ?_⟩
  · rw [List.length_set]
    by_cases e : k' = k
    · subst e
      rw [openTo_none]
      · simp [upz]
      · intro j hj hh
        by_cases e : j = m'
        · subst e; rw [hn] at hh; exact hto hh.2
        · rw [ho j e] at hh
          have hjd : cs.getD j default = cs[j] := by simp [hj]
          rw [hjd] at hh
          exact e (a3 j m' hj hm (by rw [hh.1, h3]) hh.2 h4)
    · rw [openTo_congr (ds := cs) _ (fun j hj => ?_), a1 k' hk']
      · simp [upz, e]
      · by_cases e' : j = m'
        · subst e'
          rw [hn, hd]
          simp only [h3]
          constructor
          · intro h; exact absurd h.1 (by omega)
          · intro h; exact absurd h.1 (by omega)
        · rw [ho j e']
  · rcases List.mem_or_eq_of_mem_set hx with h | h
    · exact a2 x h
    · subst h; exact a2 cs[m'] (List.getElem_mem _)
  · simp only [List.length_set] at hp hq
    simp only [List.getElem_set] at e1 e2 e3
    by_cases ep : m' = p
    · rw [if_pos ep] at e2; exact absurd e2 hto
    · by_cases eq : m' = q
      · rw [if_pos eq] at e3; exact absurd e3 hto
      · rw [if_neg ep, if_neg eq] at e1
        rw [if_neg ep] at e2
        rw [if_neg eq] at e3
        exact a3 p q hp hq e1 e2 e3

theorem step_same {ts : List Int} {cs : List Cl} {op : Nat → Int} {i : Int} {x : Ev} (hi : 0 ≤ i) (hs : StOk cs op) (ho : OpOk cs op) :
    (evP ts cs op i x).1 = (evR ts cs i x).1 ∧ (evP ts cs op i x).2.1 = (evR ts cs i x).2 ∧ StOk (evP ts cs op i x).2.1 (evP ts cs op i x).2.2 := by
  by_cases hf : formBad ts x = true
  · simp [evP, evR, hf, hs]
  · have hff := hf
    simp only [formBad, Bool.not_eq_true', Bool.not_eq_false', decide_eq_true_eq, decide_eq_false_iff_not, Bool.and_eq_true, Bool.or_eq_true, Bool.or_eq_false_iff, Bool.and_eq_false_iff, not_or, Int.not_lt, Int.not_le] at hff
    obtain ⟨⟨⟨q1, q2⟩, q3⟩, q4⟩ := hff
    obtain ⟨who, thing, kind, value⟩ := x
    obtain ⟨k, rfl⟩ := Int.eq_ofNat_of_zero_le q1
    have hk : k < 8 := by simp at q2; omega
    have hop := hs.1 k hk
    have hok := ho k hk
    by_cases hkind : kind = 0
    · subst hkind
      by_cases h0 : op k = 0
      · have : openTo cs k cs.length < 0 := by omega
        simp [evP, evR, hf, h0, this, hs]
      · obtain ⟨m, hm⟩ : ∃ m : Nat, op k = (m : Int) + 1 := ⟨(op k - 1).toNat, by omega⟩
        have hmc : m < cs.length := by omega
        have hd : cs.getD m default = cs[m] := by simp [hmc]
        have hot : openTo cs k cs.length = m := by omega
        have hkd := hs.2.1 cs[m] (List.getElem_mem _)
        have hra := resB_ansB (n := value) hkd.1 hkd.2
        by_cases hth : cs[m].thing = thing ∧ resB cs[m].kind value = true
        · have e1 : evP ts cs op i ⟨k, thing, 0, value⟩ = (0, cs.set m { cs[m] with res := value, to := i }, upz op k 0) := by
            simp [evP, hf, hm, hmc, hth, show ¬ (m : Int) + 1 = 0 by omega]
          have e2 : evR ts cs i ⟨k, thing, 0, value⟩ = (0, cs.set m { cs[m] with res := value, to := i }) := by
            simp [evR, hf, hot, hmc, ← hra, hth, show ¬ (m : Int) < 0 by omega]
          rw [e1, e2]
          exact ⟨rfl, rfl, stOk_set hs hk hmc hm hi⟩
        · have e1 : evP ts cs op i ⟨k, thing, 0, value⟩ = (3, cs, op) := by
            simp [evP, hf, hm, hmc, hth, show ¬ (m : Int) + 1 = 0 by omega]
          have e2 : evR ts cs i ⟨k, thing, 0, value⟩ = (3, cs) := by
            simp [evR, hf, hot, hmc, ← hra, hth, show ¬ (m : Int) < 0 by omega]
          rw [e1, e2]
          exact ⟨rfl, rfl, hs⟩
    · have hkl := typeF_kinds (ts.getD thing.toNat 0) kind
      by_cases hfa : (fitsB (ts.getD thing.toNat 0) kind && argB kind value) = true
      · have hfk : fitsB (ts.getD thing.toNat 0) kind = true := (Bool.and_eq_true _ _ ▸ hfa).1
        by_cases h0 : 0 < op k
        · have : 0 ≤ openTo cs k cs.length := by omega
          have e1 : evP ts cs op i ⟨k, thing, kind, value⟩ = (5, cs, op) := by
            simp only [evP, if_neg hf, if_pos hkind, hfa, Int.toNat_natCast, if_pos h0]; simp
          have e2 : evR ts cs i ⟨k, thing, kind, value⟩ = (5, cs) := by
            simp only [evR, if_neg hf, if_neg hkind, ← hkl, hfa, if_pos this]; simp
          rw [e1, e2]
          exact ⟨rfl, rfl, hs⟩
        · have : ¬ 0 ≤ openTo cs k cs.length := by omega
          have e1 : evP ts cs op i ⟨k, thing, kind, value⟩ = (0, cs ++ [⟨k, thing, kind, value, 0, i, -1⟩], upz op k (cs.length + 1)) := by
            simp only [evP, if_neg hf, if_pos hkind, hfa, Int.toNat_natCast, if_neg h0]; simp
          have e2 : evR ts cs i ⟨k, thing, kind, value⟩ = (0, cs ++ [⟨k, thing, kind, value, 0, i, -1⟩]) := by
            simp only [evR, if_neg hf, if_neg hkind, ← hkl, hfa, if_neg this]; simp
          rw [e1, e2]
          exact ⟨rfl, rfl, stOk_push hs (by omega) hk rfl rfl (typeF_pos hfk)⟩
      · have hfb : (fitsB (ts.getD thing.toNat 0) kind && argB kind value) = false := by simpa using hfa
        have e1 : evP ts cs op i ⟨k, thing, kind, value⟩ = (3, cs, op) := by
          simp only [evP, if_neg hf, if_pos hkind, hfb]; simp
        have e2 : evR ts cs i ⟨k, thing, kind, value⟩ = (3, cs) := by
          simp only [evR, if_neg hf, if_neg hkind, ← hkl, hfb]; simp
        rw [e1, e2]
        exact ⟨rfl, rfl, hs⟩

theorem run_same (ts : List Int) (l : List Ev) : ∀ k, (stP ts l k).1 = stR ts l k ∧ StOk (stP ts l k).1 (stP ts l k).2
  | 0 => ⟨rfl, fun k _ => by simp [stP, openTo], fun c hc => by simp [stP] at hc, fun i j hi _ _ _ _ => by simp [stP] at hi⟩
  | k + 1 => by
    obtain ⟨h1, h2⟩ := run_same ts l k
    have := step_same (ts := ts) (x := l.getD k default) (show (0 : Int) ≤ k by omega) h2 (stP_ok ts l k)
    rw [h1] at this
    simp only [stP, stR]
    rw [h1]
    exact ⟨this.2.1, this.2.2⟩
theorem er_same (ts : List Int) (l : List Ev) (k : Nat) : erP ts l k = erR ts l k := by
  obtain ⟨h1, h2⟩ := run_same ts l k
  have := step_same (ts := ts) (x := l.getD k default) (show (0 : Int) ≤ k by omega) h2 (stP_ok ts l k)
  rw [h1] at this
  unfold erP erR
  rw [h1]
  exact this.1
def failR (ts : List Int) (l : List Ev) : Nat := ((List.range l.length).find? fun k => decide (erR ts l k ≠ 0)).getD l.length
/-- what the document's reading answers -/
def callsR (ts : List Int) (l : List Ev) : List Cl × Int × Int :=
  if typesE ts ≠ 0 then ([], 0, typesE ts)
  else if 200 < l.length then ([], 0, 2)
  else if failR ts l < l.length then ([], failR ts l, erR ts l (failR ts l))
  else (stR ts l l.length, 0, 0)
theorem calls_same (ts : List Int) (l : List Ev) : callsP ts l = callsR ts l := by
  have hf : failP ts l = failR ts l := by
    unfold failP failR
    simp only [er_same]
  unfold callsP callsR
  rw [hf, er_same, (run_same ts l l.length).1]
theorem failR_at {ts : List Int} {l : List Ev} {k : Nat} (hk : k < l.length) (h : ∀ j, j < k → erR ts l j = 0) (he : erR ts l k ≠ 0) : failR ts l = k := by
  have := failP_at (ts := ts) (l := l) hk (fun j hj => by rw [er_same]; exact h j hj) (by rw [er_same]; exact he)
  unfold failP at this
  unfold failR
  simpa only [er_same] using this
theorem failR_none {ts : List Int} {l : List Ev} (h : ∀ j, j < l.length → erR ts l j = 0) : failR ts l = l.length := by
  have := failP_none (ts := ts) (l := l) (fun j hj => by rw [er_same]; exact h j hj)
  unfold failP at this
  unfold failR
  simpa only [er_same] using this
end Go.Proofs.YtjdckepbihcgfaaGreatDoor

namespace Go.Proofs.YtjdckepbihcgfaaGreatDoor
open Go.RowKit

section
variable {ts : List Int} {cs : List Cl} {i z tt : Int} {x : Ev}
end
theorem callsR_types {ts : List Int} {l : List Ev} (h : typesOk ts = false) : callsR ts l = ([], 0, 1) := by simp [callsR, typesE, h]
theorem callsR_long {ts : List Int} {l : List Ev} (h : typesOk ts = true) (hl : 200 < l.length) : callsR ts l = ([], 0, 2) := by simp [callsR, typesE, h, hl]
theorem callsR_err {ts : List Int} {l : List Ev} (h : typesOk ts = true) (hl : l.length ≤ 200) {k : Nat} (hk : k < l.length) (hno : ∀ j, j < k → erR ts l j = 0) {z : Int} (he : erR ts l k = z) (hz : z ≠ 0) : callsR ts l = ([], (k : Int), z) := by
  have hf := failR_at hk hno (by rw [he]; exact hz)
  have ht : typesE ts = 0 := by simp [typesE, h]
  simp only [callsR, ht, hf]
  rw [if_neg (by simp), if_neg (by omega), if_pos hk, he]
theorem callsR_ok {ts : List Int} {l : List Ev} (h : typesOk ts = true) (hl : l.length ≤ 200) (hno : ∀ j, j < l.length → erR ts l j = 0) : callsR ts l = (stR ts l l.length, 0, 0) := by
  have hf := failR_none hno
  have ht : typesE ts = 0 := by simp [typesE, h]
  simp only [callsR, ht, hf]
  rw [if_neg (by simp), if_neg (by omega), if_neg (by omega)]
end Go.Proofs.YtjdckepbihcgfaaGreatDoor

namespace Go.Proofs.YtjdckepbihcgfaaGreatDoor
open Go.RowKit

theorem callsCode_any (A B : Option Addr) (c d : Nat) (ts : List Int) (l : List Ev) (w : World) (hts : ts.length ≤ 9223372036854775807) (hl : l.length ≤ 9223372036854775807) (hT : RdInt w A ts) (hA : RdEv w B l) :
    Calls Tryz.prog 12 #[.slice A ts.length c, .slice B l.length d] w fun e w' => ∃ A' c', e = .returned (.tuple #[.slice A' (callsR ts l).1.length c', .int .i64 (callsR ts l).2.1, .int .i64 (callsR ts l).2.2]) ∧
      Own Cl.enc 7 36 w' w.heap.size (.slice A' (callsR ts l).1.length c') (callsR ts l).1 ∧ Below w.heap.size w w' := by
  rw [← calls_same]
  exact calls_any A B c d ts l w hts hl hT hA
theorem callsR_len (ts : List Int) (l : List Ev) : (callsR ts l).1.length ≤ 200 := by
  unfold callsR
  split
  · simp
  · split
    · simp
    · split
      · simp
      · have := stP_len ts l l.length
        rw [(run_same ts l l.length).1] at this
        show (stR ts l l.length).length ≤ 200
        omega
/-- what is so of each call that a reading keeps -/
structure ClOk (ts : List Int) (i : Int) (c : Cl) : Prop where
  who : 0 ≤ c.who ∧ c.who < 8
  thing : 0 ≤ c.thing ∧ c.thing < ts.length
  kind : (kindsL (ts.getD c.thing.toNat 0)).contains c.kind = true
  arg : argB c.kind c.arg = true
  place : 0 ≤ c.from_ ∧ c.from_ < i
structure ClsOk (ts : List Int) (i : Int) (cs : List Cl) : Prop where
  each : ∀ q (h : q < cs.length), ClOk ts i cs[q]
  rising : ∀ p q (h1 : p < q) (h : q < cs.length), cs[p].from_ < cs[q].from_
theorem ClOk.mono {ts : List Int} {i j : Int} {c : Cl} (h : ClOk ts i c) (hij : i ≤ j) : ClOk ts j c := ⟨h.who, h.thing, h.kind, h.arg, by have := h.place; omega⟩
theorem clsOk_step {ts : List Int} {i : Int} {cs : List Cl} (x : Ev) (hi : 0 ≤ i) (h : ClsOk ts i cs) : ClsOk ts (i + 1) (evR ts cs i x).2 := by
  have keep : ClsOk ts (i + 1) cs := ⟨fun q hq => (h.each q hq).mono (by omega), h.rising⟩
  unfold evR
  by_cases hf : formBad ts x = true
  · rw [if_pos hf]; exact keep
  · rw [if_neg hf]
    have hf' : formBad ts x = false := by simpa using hf
    by_cases hk : x.kind = 0
    · rw [if_pos hk]
      split
      · exact keep
      · split
        · rename_i hz hc
          obtain ⟨m, hm⟩ : ∃ m, (openTo cs x.who cs.length).toNat = m := ⟨_, rfl⟩
          have hlt := openTo_lt cs x.who cs.length
          have hml : m < cs.length := by omega
          rw [hm]
          have hd : cs.getD m default = cs[m] := by simp [hml]
          rw [hd]
          dsimp only
          refine ⟨fun q hq => ?_, fun p q hpq hq => ?_⟩
          · have hq' : q < cs.length := by simpa using hq
            have hc' := keep.each q hq'
            rw [List.getElem_set]
            split
            · rename_i e
              subst e
              exact ⟨hc'.who, hc'.thing, hc'.kind, hc'.arg, hc'.place⟩
            · exact hc'
          · have hq' : q < cs.length := by simpa using hq
            have hr := h.rising p q hpq hq'
            rw [List.getElem_set, List.getElem_set]
            split <;> split <;> (subst_vars; first | exact hr | omega)
        · exact keep
    · rw [if_neg hk]
      split
      · exact keep
      · split
        · exact keep
        · rename_i hb _
          simp only [formBad, Bool.or_eq_false_iff, decide_eq_false_iff_not] at hf'
          have hb' : ((kindsL (ts.getD x.thing.toNat 0)).contains x.kind && argB x.kind x.value) = true := by simpa using hb
          rw [Bool.and_eq_true] at hb'
          dsimp only
          refine ⟨fun q hq => ?_, fun p q hpq hq => ?_⟩
          · by_cases e : q < cs.length
            · rw [List.getElem_append_left e]; exact keep.each q e
            · rw [List.getElem_append_right (by omega)]
              simp only [List.getElem_singleton]
              exact ⟨by dsimp only; omega, by dsimp only; omega, hb'.1, hb'.2, by dsimp only; omega⟩
          · simp only [List.length_append, List.length_cons, List.length_nil] at hq
            by_cases e : q < cs.length
            · rw [List.getElem_append_left e, List.getElem_append_left (by omega)]; exact h.rising p q hpq e
            · rw [List.getElem_append_left (show p < cs.length by omega), List.getElem_append_right (by omega)]
              simp only [List.getElem_singleton]
              have := (h.each p (by omega)).place
              omega
theorem clsOk_st (ts : List Int) (l : List Ev) : ∀ k : Nat, ClsOk ts (k : Int) (stR ts l k)
  | 0 => ⟨fun q h => by simp [stR] at h, fun p q _ h => by simp [stR] at h⟩
  | k + 1 => by
    have := clsOk_step (ts := ts) (i := k) (l.getD k default) (by omega) (clsOk_st ts l k)
    rw [stR]
    exact this
/-- the calls that a reading gives -/
theorem callsR_inv {ts : List Int} {l : List Ev} (h : (callsR ts l).2.2 = 0) : typesOk ts = true ∧ l.length ≤ 200 ∧ (∀ j, j < l.length → erR ts l j = 0) ∧ (callsR ts l).1 = stR ts l l.length := by
  by_cases h1 : typesOk ts = true
  · by_cases h2 : 200 < l.length
    · rw [callsR_long h1 h2] at h; cases h
    · rcases Nat.lt_or_ge (failR ts l) l.length with hf | hf
      · exfalso
        have hk : ∃ k, k < l.length ∧ (∀ j, j < k → erR ts l j = 0) ∧ erR ts l k ≠ 0 := by
          unfold failR at hf
          cases hc : (List.range l.length).find? fun k => decide (erR ts l k ≠ 0) with
          | none => rw [hc] at hf; simp at hf
          | some k =>
            rw [List.find?_range_eq_some] at hc
            exact ⟨k, by simpa using hc.2.1, fun j hj => by simpa using hc.2.2 j hj, by simpa using hc.1⟩
        obtain ⟨k, a, b, c⟩ := hk
        rw [callsR_err h1 (by omega) a b rfl c] at h
        exact c h
      · have hall : ∀ j, j < l.length → erR ts l j = 0 := by
          intro j hj
          refine Decidable.byContradiction fun hn => ?_
          unfold failR at hf
          cases hc : (List.range l.length).find? fun k => decide (erR ts l k ≠ 0) with
          | none =>
            rw [List.find?_eq_none] at hc
            have := hc j (by simpa using hj)
            simp only [decide_eq_true_eq] at this
            exact this hn
          | some k =>
            rw [hc] at hf
            rw [List.find?_range_eq_some] at hc
            have h3 : k < l.length := by simpa using hc.2.1
            simp at hf
            omega
        refine ⟨h1, by omega, hall, ?_⟩
        rw [callsR_ok h1 (by omega) hall]
  · rw [callsR_types (by simpa using h1)] at h; cases h
end Go.Proofs.YtjdckepbihcgfaaGreatDoor

namespace Go.Proofs.YtjdckepbihcgfaaGreatDoor
open Go.RowKit Go.Lib

/-! what is printed -/
theorem itoa_len8 {n : Int} (h : -1000000 ≤ n ∧ n ≤ 1000000) : (itoa n).length ≤ 8 := by
  have hl : ∀ u : Nat, u ≤ 1000000 → (decDigits u).length ≤ 7 := fun u hu => by rw [decDigits_length]; exact nDigits_le7 hu
  unfold itoa
  split
  · have := hl n.natAbs (by omega)
    simp only [List.length_cons]
    first | omega | (have := hl (-n).toNat (by omega); omega)
  · have := hl n.toNat (by omega)
    omega
end Go.Proofs.YtjdckepbihcgfaaGreatDoor
