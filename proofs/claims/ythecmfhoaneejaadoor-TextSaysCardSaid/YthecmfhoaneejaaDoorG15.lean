/- Lemmas for the walks (TxA, TxX). No condition. -/
import Derived.Test.YthecmfhoaneejaaDoorG12
import Derived.Test.YthecmfhoaneejaaDoorG14
import Derived.Test.YthecmfhoaneejaaDoorG07
import Derived.Test.YthecmfhoaneejaaDoorG09
import Derived.Shelf.Vars
import Derived.Lib.LaidTab
import Derived.MakeChecks
import Derived.LaidSub
import Derived.Stop.LaidErr
set_option linter.unusedSimpArgs false
set_option linter.unusedVariables false
set_option linter.unusedSectionVars false
set_option linter.unnecessarySimpa false
namespace Go.Proofs.YthecmfhoaneejaaDoor
open Go.RowKit Go.Lib
set_option linter.unusedSectionVars false

theorem readR_len (l : Bs) : (readR l).1.length ≤ 4 ∧ (readR l).2.1.length ≤ 8192 := by
  unfold readR
  by_cases h8 : 8192 < l.length
  · rw [if_pos h8]; simp
  · rw [if_neg h8]
    have hsl := splitL_len 10 l
    have hel : (evsK (splitL 10 l) ((splitL 10 l).length - 1)).length ≤ 8192 := by rw [evsK_len]; omega
    have htl : (tysK (splitL 10 l)).length ≤ 4 := by
      unfold tysK
      cases ht : thingsR (lnK (splitL 10 l) 0) with
      | none => exact Nat.zero_le _
      | some t => exact (thingsR_ok ht).1
    generalize tysK (splitL 10 l) = K at *
    generalize evsK (splitL 10 l) ((splitL 10 l).length - 1) = E at *
    generalize badLine (splitL 10 l) = b
    cases b with
    | some i => simp
    | none =>
      dsimp only
      split
      · simp
      · split
        · simp
        · exact ⟨htl, hel⟩
section
variable (A B : Option Addr) (ca cl : Nat) (ts : List Int) (l : List Ev) (s : Bs) (w : World) (hts : ts.length ≤ 9223372036854775807) (hl : l.length ≤ 9223372036854775807) (hs : s.length ≤ 9223372036854775807) (hA : RdInt w A ts) (hB : RdEv w B l) (hT : TxW w)
include hts hl hs hA hB hT
set_option maxRecDepth 100000 in
set_option maxHeartbeats 4000000 in
theorem textSays_any : Calls Tryd.prog 3 #[.slice A ts.length ca, .slice B l.length cl, bsv s] w fun e w' => e = .returned (.bool true) ∧ Below w.heap.size w w' := by
  have hca := fun w h1 h2 => callsOf_any A B ca cl ts l w hts hl h1 h2
  have hpr := fun w h1 h2 h3 => textPrint_any A B ca cl ts l w hts hl h1 h2 h3
  have hok := fun h => evs_ok (ts := ts) (l := l) h
  have hrl := readR_len s
  have hrd := fun w h => textRead_any s w hs h
  have hdr := fun w h => docRead_any s w hs h
  obtain ⟨⟨T, E, k, f⟩, hR⟩ : ∃ r, r = readR s := ⟨_, rfl⟩
  rw [← hR] at hrl hrd hdr
  dsimp only at hrl hrd hdr
  clear hR
  have hq1 := fun A B c d w h1 h2 => equal_any A B c d T T w (by omega) (by omega) h1 h2
  have hq2 := fun A B c d w h1 h2 => equalEv_any A B c d E E w (by omega) (by omega) h1 h2
  rw [decide_eq_true rfl] at hq1 hq2
  unfold printR at hpr
  obtain ⟨cs, y, z, hcr⟩ : ∃ cs y z, callsR ts l = (cs, y, z) := ⟨_, _, _, rfl⟩
  rw [hcr] at hca hok hpr
  dsimp only at hca hok hpr
  clear hcr
  refine calls_T (S := []) [] Tryd.func3 rfl Tryd.ntmps3 (by simp) (Mem.nil _) ?_
  by_cases hz : z = 0
  · obtain ⟨⟨ht4, htk⟩, hl2, hev⟩ := hok hz
    rw [if_pos hz] at hpr
    have hto := fun w h1 h2 h3 => textOf_any A B ca cl ts l w h1 h2 h3 ht4 htk hl2 (fun x hx => (hev x hx).num)
    generalize textB ts l = P at *
    clear hok
    repeat' (first | ((first | with_reducible (first | apply TL_q | apply TD_q0 | apply TD_q1 | apply TD_q2 | apply TD_q3) | ((with_reducible (first | apply TD_q0y | apply TD_q1y)); exact rfl; exact rfl; (with_reducible exact rfl))); (first | ((with_reducible apply QS_eqlBs); exact rfl; exact rfl) | exact QS.auto); exact rfl) | (refine GO ?_) | (refine GOE ?_; (first | (rintro _ _ ⟨rfl, rfl⟩) | (rintro _ _ ⟨g, rfl, rfl⟩) | (rintro _ _ ⟨A', c', rfl, rfl⟩))) | ((refine GO2 ?_ ?_) <;> intro h <;> (try (repeat (first | with_reducible (replace h := of_decide_eq_true h) | with_reducible (replace h := of_decide_eq_false h) | with_reducible (replace h := bnt h) | with_reducible (replace h := bnf h) | with_reducible (replace h := Int.not_lt.mp h) | with_reducible (replace h := Int.not_le.mp h) | with_reducible (replace h := band_dec h) | with_reducible (replace h := band_decF h) | with_reducible (replace h := bor_dec h) | with_reducible (replace h := bor_decF h)))) <;> (try (exfalso; first | contradiction | omega))) | ((with_reducible (first | apply TD_e2z | apply TD_e3z | apply TL_e | apply TD_e2 | apply TD_e3)); ((with_reducible apply ES_callV (f := 4)); exact rfl; (intro w hw; exact hpr w (hw.rd rfl hA) (hw.rd rfl hB) (hT.carry (hw.below0 rfl))); exact rfl); (first | exact rfl | exact ⟨rfl, rfl, rfl⟩); (rintro _ _ ⟨rfl, rfl⟩); (try refine ⟨SUB, ?_⟩)) | ((with_reducible (first | apply TD_e2z | apply TD_e3z | apply TL_e | apply TD_e2 | apply TD_e3)); ((with_reducible apply ES_callX (f := 5) (X := (Option Addr × Nat) × (Option Addr × Nat)) (S1 := []) (fun x => .tuple #[.slice x.1.1 T.length x.1.2, .slice x.2.1 E.length x.2.2, .int .i64 k, .int .i64 f]) (fun x => [entOwn intEnc 1 3 x.1.1 x.1.2 T, entOwn Ev.enc 4 36 x.2.1 x.2.2 E])); exact rfl; ((repeat (first | exact Pull.nil _ | (apply Pull.cons; (repeat (first | with_reducible exact Pick.here _ _ | with_reducible apply Pick.there)))))); (intro x; (try dsimp only); repeat (first | exact AppL.nil _ | apply AppL.cons)); (intro w hw; exact hrd w (hT.carry (hw.below0 rfl))); exact rfl); (first | exact rfl | exact ⟨rfl, rfl, rfl⟩); (rintro _ _ ⟨⟨⟨R1, r1⟩, ⟨R2, r2⟩⟩, rfl, rfl⟩); (try refine ⟨SUB, ?_⟩)) | ((with_reducible (first | apply TD_e2z | apply TD_e3z | apply TL_e | apply TD_e2 | apply TD_e3)); ((with_reducible apply ES_callOwn (f := 6)); exact rfl; (intro w hw; exact hca w (hw.rd rfl hA) (hw.rd rfl hB)); exact rfl); (first | exact rfl | exact ⟨rfl, rfl, rfl⟩); (rintro _ _ ⟨A5, c5, rfl, rfl⟩); (try refine ⟨SUB, ?_⟩)) | ((with_reducible (first | apply TD_e2z | apply TD_e3z | apply TL_e | apply TD_e2 | apply TD_e3)); ((with_reducible apply ES_callV (f := 7)); exact rfl; (intro w hw; exact hto w (hw.rd rfl hA) (hw.rd rfl hB) (hT.carry (hw.below0 rfl))); exact rfl); (first | exact rfl | exact ⟨rfl, rfl, rfl⟩); (rintro _ _ ⟨rfl, rfl⟩); (try refine ⟨SUB, ?_⟩)) | ((with_reducible (first | apply TD_e2z | apply TD_e3z | apply TL_e | apply TD_e2 | apply TD_e3)); ((with_reducible apply ES_callX (f := 8) (X := (Option Addr × Nat) × (Option Addr × Nat)) (S1 := []) (fun x => .tuple #[.slice x.1.1 T.length x.1.2, .slice x.2.1 E.length x.2.2, .int .i64 k, .int .i64 f]) (fun x => [entOwn intEnc 1 3 x.1.1 x.1.2 T, entOwn Ev.enc 4 36 x.2.1 x.2.2 E])); exact rfl; ((repeat (first | exact Pull.nil _ | (apply Pull.cons; (repeat (first | with_reducible exact Pick.here _ _ | with_reducible apply Pick.there)))))); (intro x; (try dsimp only); repeat (first | exact AppL.nil _ | apply AppL.cons)); (intro w hw; exact hdr w (hT.carry (hw.below0 rfl))); exact rfl); (first | exact rfl | exact ⟨rfl, rfl, rfl⟩); (rintro _ _ ⟨⟨⟨D1, d1⟩, ⟨D2, d2⟩⟩, rfl, rfl⟩); (try refine ⟨SUB, ?_⟩)) | ((with_reducible (first | apply TD_e2z | apply TD_e3z | apply TL_e | apply TD_e2 | apply TD_e3)); ((with_reducible apply ES_callV (f := 9)); exact rfl; (intro w hw; exact hq1 _ _ _ _ w (hw.ownRd (et := 3) (by first | ((repeat (first | with_reducible exact List.mem_cons_self | with_reducible apply List.mem_cons_of_mem)); done) | (repeat (first | exact List.Mem.head _ | apply List.Mem.tail))) (fun _ => rfl)) (hw.ownRd (et := 3) (by first | ((repeat (first | with_reducible exact List.mem_cons_self | with_reducible apply List.mem_cons_of_mem)); done) | (repeat (first | exact List.Mem.head _ | apply List.Mem.tail))) (fun _ => rfl))); exact rfl); (first | exact rfl | exact ⟨rfl, rfl, rfl⟩); (rintro _ _ ⟨rfl, rfl⟩); (try refine ⟨SUB, ?_⟩)) | ((with_reducible (first | apply TD_e2z | apply TD_e3z | apply TL_e | apply TD_e2 | apply TD_e3)); ((with_reducible apply ES_callV (f := 10)); exact rfl; (intro w hw; exact hq2 _ _ _ _ w (hw.ownRd (et := 36) (by first | ((repeat (first | with_reducible exact List.mem_cons_self | with_reducible apply List.mem_cons_of_mem)); done) | (repeat (first | exact List.Mem.head _ | apply List.Mem.tail))) (fun _ => rfl)) (hw.ownRd (et := 36) (by first | ((repeat (first | with_reducible exact List.mem_cons_self | with_reducible apply List.mem_cons_of_mem)); done) | (repeat (first | exact List.Mem.head _ | apply List.Mem.tail))) (fun _ => rfl))); exact rfl); (first | exact rfl | exact ⟨rfl, rfl, rfl⟩); (rintro _ _ ⟨rfl, rfl⟩); (try refine ⟨SUB, ?_⟩)) | fail)
    all_goals first | (exfalso; contradiction) | skip
    all_goals ((refine At_ret Tryd.results3 rfl (fun w' hw => ?_)); exact ⟨by simp [resVal], hw.below0 rfl⟩)
  · rw [if_neg hz] at hpr
    clear hok
    repeat' (first | ((first | with_reducible (first | apply TL_q | apply TD_q0 | apply TD_q1 | apply TD_q2 | apply TD_q3) | ((with_reducible (first | apply TD_q0y | apply TD_q1y)); exact rfl; exact rfl; (with_reducible exact rfl))); (first | ((with_reducible apply QS_eqlBs); exact rfl; exact rfl) | exact QS.auto); exact rfl) | (refine GO ?_) | (refine GOE ?_; (first | (rintro _ _ ⟨rfl, rfl⟩) | (rintro _ _ ⟨g, rfl, rfl⟩) | (rintro _ _ ⟨A', c', rfl, rfl⟩))) | ((refine GO2 ?_ ?_) <;> intro h <;> (try (repeat (first | with_reducible (replace h := of_decide_eq_true h) | with_reducible (replace h := of_decide_eq_false h) | with_reducible (replace h := bnt h) | with_reducible (replace h := bnf h) | with_reducible (replace h := Int.not_lt.mp h) | with_reducible (replace h := Int.not_le.mp h) | with_reducible (replace h := band_dec h) | with_reducible (replace h := band_decF h) | with_reducible (replace h := bor_dec h) | with_reducible (replace h := bor_decF h)))) <;> (try (exfalso; first | contradiction | omega))) | ((with_reducible (first | apply TD_e2z | apply TD_e3z | apply TL_e | apply TD_e2 | apply TD_e3)); ((with_reducible apply ES_callV (f := 4)); exact rfl; (intro w hw; exact hpr w (hw.rd rfl hA) (hw.rd rfl hB) (hT.carry (hw.below0 rfl))); exact rfl); (first | exact rfl | exact ⟨rfl, rfl, rfl⟩); (rintro _ _ ⟨rfl, rfl⟩); (try refine ⟨SUB, ?_⟩)) | ((with_reducible (first | apply TD_e2z | apply TD_e3z | apply TL_e | apply TD_e2 | apply TD_e3)); ((with_reducible apply ES_callX (f := 5) (X := (Option Addr × Nat) × (Option Addr × Nat)) (S1 := []) (fun x => .tuple #[.slice x.1.1 T.length x.1.2, .slice x.2.1 E.length x.2.2, .int .i64 k, .int .i64 f]) (fun x => [entOwn intEnc 1 3 x.1.1 x.1.2 T, entOwn Ev.enc 4 36 x.2.1 x.2.2 E])); exact rfl; ((repeat (first | exact Pull.nil _ | (apply Pull.cons; (repeat (first | with_reducible exact Pick.here _ _ | with_reducible apply Pick.there)))))); (intro x; (try dsimp only); repeat (first | exact AppL.nil _ | apply AppL.cons)); (intro w hw; exact hrd w (hT.carry (hw.below0 rfl))); exact rfl); (first | exact rfl | exact ⟨rfl, rfl, rfl⟩); (rintro _ _ ⟨⟨⟨R1, r1⟩, ⟨R2, r2⟩⟩, rfl, rfl⟩); (try refine ⟨SUB, ?_⟩)) | ((with_reducible (first | apply TD_e2z | apply TD_e3z | apply TL_e | apply TD_e2 | apply TD_e3)); ((with_reducible apply ES_callOwn (f := 6)); exact rfl; (intro w hw; exact hca w (hw.rd rfl hA) (hw.rd rfl hB)); exact rfl); (first | exact rfl | exact ⟨rfl, rfl, rfl⟩); (rintro _ _ ⟨A5, c5, rfl, rfl⟩); (try refine ⟨SUB, ?_⟩)) | ((with_reducible (first | apply TD_e2z | apply TD_e3z | apply TL_e | apply TD_e2 | apply TD_e3)); ((with_reducible apply ES_callX (f := 8) (X := (Option Addr × Nat) × (Option Addr × Nat)) (S1 := []) (fun x => .tuple #[.slice x.1.1 T.length x.1.2, .slice x.2.1 E.length x.2.2, .int .i64 k, .int .i64 f]) (fun x => [entOwn intEnc 1 3 x.1.1 x.1.2 T, entOwn Ev.enc 4 36 x.2.1 x.2.2 E])); exact rfl; ((repeat (first | exact Pull.nil _ | (apply Pull.cons; (repeat (first | with_reducible exact Pick.here _ _ | with_reducible apply Pick.there)))))); (intro x; (try dsimp only); repeat (first | exact AppL.nil _ | apply AppL.cons)); (intro w hw; exact hdr w (hT.carry (hw.below0 rfl))); exact rfl); (first | exact rfl | exact ⟨rfl, rfl, rfl⟩); (rintro _ _ ⟨⟨⟨D1, d1⟩, ⟨D2, d2⟩⟩, rfl, rfl⟩); (try refine ⟨SUB, ?_⟩)) | ((with_reducible (first | apply TD_e2z | apply TD_e3z | apply TL_e | apply TD_e2 | apply TD_e3)); ((with_reducible apply ES_callV (f := 9)); exact rfl; (intro w hw; exact hq1 _ _ _ _ w (hw.ownRd (et := 3) (by first | ((repeat (first | with_reducible exact List.mem_cons_self | with_reducible apply List.mem_cons_of_mem)); done) | (repeat (first | exact List.Mem.head _ | apply List.Mem.tail))) (fun _ => rfl)) (hw.ownRd (et := 3) (by first | ((repeat (first | with_reducible exact List.mem_cons_self | with_reducible apply List.mem_cons_of_mem)); done) | (repeat (first | exact List.Mem.head _ | apply List.Mem.tail))) (fun _ => rfl))); exact rfl); (first | exact rfl | exact ⟨rfl, rfl, rfl⟩); (rintro _ _ ⟨rfl, rfl⟩); (try refine ⟨SUB, ?_⟩)) | ((with_reducible (first | apply TD_e2z | apply TD_e3z | apply TL_e | apply TD_e2 | apply TD_e3)); ((with_reducible apply ES_callV (f := 10)); exact rfl; (intro w hw; exact hq2 _ _ _ _ w (hw.ownRd (et := 36) (by first | ((repeat (first | with_reducible exact List.mem_cons_self | with_reducible apply List.mem_cons_of_mem)); done) | (repeat (first | exact List.Mem.head _ | apply List.Mem.tail))) (fun _ => rfl)) (hw.ownRd (et := 36) (by first | ((repeat (first | with_reducible exact List.mem_cons_self | with_reducible apply List.mem_cons_of_mem)); done) | (repeat (first | exact List.Mem.head _ | apply List.Mem.tail))) (fun _ => rfl))); exact rfl); (first | exact rfl | exact ⟨rfl, rfl, rfl⟩); (rintro _ _ ⟨rfl, rfl⟩); (try refine ⟨SUB, ?_⟩)) | fail)
    all_goals first | (exfalso; contradiction) | skip
    all_goals ((refine At_ret Tryd.results3 rfl (fun w' hw => ?_)); exact ⟨by simp [resVal], hw.below0 rfl⟩)
end
end Go.Proofs.YthecmfhoaneejaaDoor

namespace Go.Proofs.YthecmfhoaneejaaDoor
open Go.RowKit Go.Lib

/-- a listed variable of an interface's type holds an interface value -/
theorem cell_of_laid_iface {P : Program} {n nm : String} {d : DataW Unit} {r : List (String × DataW Unit)} {W : World} {g : Nat} {ti : TypeId} {ms : Array (String × TypeId)}
    (h : laidMet P ((n, .iface nm d) :: r) W) (hg : P.globalNamed n = some g) (ht : (P.globals[g]?).map (·.type) = some ti) (hi : P.underlying ti = some (.interface ms)) :
    ∃ ev, W.cell? ⟨g, 0, none⟩ = some ev ∧ (ev = .nilIface ∨ ∃ te pe, ev = .iface te pe) := by
  obtain ⟨ps, ⟨g0, t0, cs0, f0, p0, q0, hg0, ht0, hv0, hd0, _, e0⟩, _, hrows⟩ := h
  obtain rfl := Option.some.inj (hg.symm.trans hg0)
  obtain rfl := Option.some.inj (ht.symm.trans ht0)
  obtain ⟨l0⟩ := cs0
  obtain ⟨f1, u, v, hl, _, _⟩ := iface_of_trod hi hd0
  have hl' : l0 = [.iface u v] := hl
  subst hl'
  exact ⟨.iface u v, by simpa using World.var?_cell hg hv0 0, .inr ⟨u, v, rfl⟩⟩
theorem pow_eq : (Rows.laid_internal_strconv_uint64pow10 : DataW Unit) = tabData .u64 pow10Tab := by kernel_rfl
theorem asc_eq : (Rows.laid_strings_asciiSpace : DataW Unit) = tabData .u8 asciiSpaceTab := by kernel_rfl
theorem txW_of {W : World} (hsh : W.ShapedOpen Tryd.prog) {r : List (String × DataW Unit)} (hp : laidMet Tryd.prog (("internal/strconv.uint64pow10", Rows.laid_internal_strconv_uint64pow10) :: r) W) {r2 r3 r4 : List (String × DataW Unit)} (hr : laidMet Tryd.prog (("strconv.ErrRange", Rows.laid_strconv_ErrRange) :: r3) W) (hs : laidMet Tryd.prog (("strconv.ErrSyntax", Rows.laid_strconv_ErrSyntax) :: r4) W) (ha : laidMet Tryd.prog (("strings.asciiSpace", Rows.laid_strings_asciiSpace) :: r2) W) : TxW W := by
  rw [pow_eq] at hp
  rw [asc_eq] at ha
  refine ⟨?_, ?_, ?_, ?_, ?_⟩
  · exact Go.Proofs.cell_of_shapedOpen_int (t := 3) (zero := #[.int .i64 0]) hsh (of_decide_eq_true (by kernel_rfl)) (by kernel_rfl) rfl (by kernel_rfl) (by kernel_rfl) Tryd.underlying3
  · exact tabIs_of_head (g := 3) (t := 109) (e := 91) (by kernel_rfl) (by kernel_rfl) Tryd.underlying109 Tryd.underlying91 (by kernel_rfl) (by kernel_rfl) hp
  · exact tabIs_of_head (g := 0) (t := 85) (e := 5) (by kernel_rfl) (by kernel_rfl) Tryd.underlying85 Tryd.underlying5 (by kernel_rfl) (by kernel_rfl) ha
  · exact cell_of_laid_iface hs (by kernel_rfl) (by kernel_rfl) Tryd.underlying43
  · exact cell_of_laid_iface hr (by kernel_rfl) (by kernel_rfl) Tryd.underlying43
end Go.Proofs.YthecmfhoaneejaaDoor
