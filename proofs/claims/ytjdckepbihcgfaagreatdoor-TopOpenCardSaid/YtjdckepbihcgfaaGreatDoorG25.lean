/- Lemmas for the walks (VdM, TpL, Ta2, TxX). No condition. -/
import Derived.Test.YtjdckepbihcgfaaGreatDoorG24
import Derived.Test.YtjdckepbihcgfaaGreatDoorG17
import Derived.Test.YtjdckepbihcgfaaGreatDoorG15
import Derived.Test.YtjdckepbihcgfaaGreatDoorG16
import Derived.Test.YtjdckepbihcgfaaGreatDoorG06
import Derived.Test.YtjdckepbihcgfaaGreatDoorG22
import Derived.Shelf.Vars
import Derived.Lib.LaidTab
import Derived.MakeChecks
import Derived.LaidSub
import Derived.Stop.LaidErr
set_option linter.unusedSimpArgs false
set_option linter.unusedVariables false
set_option linter.unusedSectionVars false
set_option linter.unnecessarySimpa false
namespace Go.Proofs.YtjdckepbihcgfaaGreatDoor
open Go.RowKit Go.Lib
set_option linter.unusedSectionVars false

def tick5 (l : List Ev) : Bs := badB (tkR l).1 (tkR l).2.1 (tkR l).2.2
def verd5 (s : Bs) : Bs := lnB [wCalls, itoa (callsR (readR s).1 (readR s).2.1).1.length] ++ witB (readR s).1 (readR s).2.1 ++ tick5 (readR s).2.1
section
variable (b cx : Nat) (Ax : Option Addr) (l0 : Bs) (B1 : Option Addr) (d1 : Nat) (l : List Ev) (W : World) (hT : TxW W) (hoff : GlobOff (blks [entBldr 63 5 b Ax cx l0])) (hl0 : l0.length ≤ 10000) (hl : l.length ≤ 9223372036854775807) (hB : RdEv W B1 l)
  (hwB : ∀ b' o, B1 = some ⟨b', o, none⟩ → b' ∉ blks [entBldr 63 5 b Ax cx l0]) (n0 : Nat) (hm : Mem ⟨n0, blks [entBldr 63 5 b Ax cx l0], W⟩ W [entBldr 63 5 b Ax cx l0])
include hT hoff hl0 hl hB hwB hm
set_option maxRecDepth 100000 in
set_option maxHeartbeats 4000000 in
theorem single5_mem (t : Int) (h5 : t = 5) : Calls Tryz.prog 27 #[.pointer (some ⟨b, 0, none⟩), .int .i64 t, .slice B1 l.length d1] W fun e w' => ∃ x : Option Addr × Nat, e = .returned (.tuple #[]) ∧ Mem ⟨0, blks [entBldr 63 5 b Ax cx l0], W⟩ w' [entBldr 63 5 b x.1 x.2 (l0 ++ tick5 l)] := by
  obtain ⟨F, hF⟩ : ∃ F, F = blks [entBldr 63 5 b Ax cx l0] := ⟨_, rfl⟩
  have htc := fun w h => tkCheckA_any B1 d1 l w hl h
  rw [← hF] at hoff hwB hm
  have hgoal : blks [entBldr 63 5 b Ax cx l0] = F := hF.symm
  rw [hgoal]
  clear hF
  refine calls_T (S := [entBldr 63 5 b Ax cx l0]) F Tryz.func27 rfl Tryz.ntmps27 (by simp) (hm.anyN _) ?_
  have h1 : ¬ t = 1 := by omega
  have h2 : ¬ t = 2 := by omega
  unfold tick5
  have hbs := tkR_sm l
  have hes := tkR_er l
  generalize tkR l = q at *
  obtain ⟨ok, bd, er⟩ := q
  dsimp only at htc hbs hes ⊢
  repeat' (first | ((first | with_reducible (first | apply TL_q | apply TD_q0 | apply TD_q1 | apply TD_q2 | apply TD_q3) | ((with_reducible (first | apply TD_q0y | apply TD_q1y)); exact rfl; exact rfl; (with_reducible exact rfl))); (first | ((with_reducible apply QS_makeInterface); exact rfl) | exact QS.auto); exact rfl) | refine GG ?_ | (refine GE ?_; (first | rintro _ _ ⟨rfl, rfl⟩ | rintro _ _ ⟨g, rfl, rfl⟩ | rintro _ _ ⟨A', c', rfl, rfl⟩); (try refine ⟨SUB, ?_⟩)) | (refine GO2 ?_ ?_ <;> (refine Zs ?_; intro h; try exact Zx)) | refine GOF ?_ ?_ | ((with_reducible (first | apply TD_e2z | apply TD_e3z | apply TL_e | apply TD_e2 | apply TD_e3)); ((with_reducible apply ES_callV (f := 63)); exact rfl; (intro w hw; exact htc w (hw.rdAwayF hB hwB)); exact rfl); (first | exact rfl | exact ⟨rfl, rfl, rfl⟩); (rintro _ _ ⟨rfl, rfl⟩); (try refine ⟨SUB, ?_⟩)) | fail)
  all_goals first | (exfalso; contradiction) | skip
  (first | ((with_reducible (first | apply TD_e2z | apply TD_e3z | apply TL_e | apply TD_e2 | apply TD_e3)); ((with_reducible apply ES_callX (f := 60) (X := Option Addr × Nat) (S1 := [entBldr 63 5 b _ _ _]) (fun _ => .tuple #[]) (fun x => [entBldr 63 5 b x.1 x.2 (_ ++ badB ok bd er)])); exact rfl; exact Zp; (intro x; (try dsimp only); exact Za); (intro w hw; exact bad_mem b _ _ _ w (hT.keeps hw.keeps hoff) (globOff_of hT hoff hw) (by omega) 0 (hw.self 0) ok bd er hbs hes); exact rfl); (first | exact rfl | exact ⟨rfl, rfl, rfl⟩); (rintro _ _ ⟨⟨Ax, cx⟩, rfl, rfl⟩); (try refine ⟨SUB, ?_⟩)) | fail)
  repeat' (first | ((first | with_reducible (first | apply TL_q | apply TD_q0 | apply TD_q1 | apply TD_q2 | apply TD_q3) | ((with_reducible (first | apply TD_q0y | apply TD_q1y)); exact rfl; exact rfl; (with_reducible exact rfl))); (first | ((with_reducible apply QS_makeInterface); exact rfl) | exact QS.auto); exact rfl) | refine GG ?_ | (refine GE ?_; (first | rintro _ _ ⟨rfl, rfl⟩ | rintro _ _ ⟨g, rfl, rfl⟩ | rintro _ _ ⟨A', c', rfl, rfl⟩); (try refine ⟨SUB, ?_⟩)) | (refine GO2 ?_ ?_ <;> (refine Zs ?_; intro h; try exact Zx)) | refine GOF ?_ ?_ | fail)
  (refine At_retN Tryz.results27 rfl (fun w' hw => ?_))
  exact ⟨(Ax, cx), rfl, (hw.anyN 0).sel Zl⟩
end
section
variable (s : Bs) (W : World) (hs : s.length ≤ 9223372036854775807) (hT : TxW W)
include hs hT
set_option maxRecDepth 100000 in
set_option maxHeartbeats 8000000 in
theorem run5_any (hf : (readR s).2.2.2 = 0) (hT5 : (readR s).1 = [5]) (h9 : (callsR (readR s).1 (readR s).2.1).1.length ≤ 9) : Calls Tryz.prog 7 #[bsv s] W fun e w' => e = .returned (bsv (verd5 s)) ∧ Below W.heap.size W w' := by
  have hrd := fun w h => textRead_any s w hs h
  obtain ⟨hsk, hsf, hTl, hEl, -⟩ := readR_bd s
  unfold verd5
  obtain ⟨⟨T, E, k, f⟩, hR⟩ : ∃ r, r = readR s := ⟨_, rfl⟩
  rw [← hR] at hrd hsk hsf hTl hEl hT5 hf h9 ⊢
  dsimp only at hrd hsk hsf hTl hEl hT5 hf h9 ⊢
  clear hR
  have h1 : T.length = 1 := by rw [hT5]; rfl
  have hT5 : T[0] = 5 := by subst hT5; rfl
  have hca := fun A B c d w h1 h2 => callsCode_any A B c d T E w (by omega) (by omega) h1 h2
  have hcl := callsR_len T E
  refine calls_T (S := []) [] Tryz.func7 rfl Tryz.ntmps7 (by simp) (Mem.nil _) ?_
  repeat' (first | ((first | with_reducible (first | apply TL_q | apply TD_q0 | apply TD_q1 | apply TD_q2 | apply TD_q3) | ((with_reducible (first | apply TD_q0y | apply TD_q1y)); exact rfl; exact rfl; (with_reducible exact rfl))); (first | ((with_reducible apply QS_makeInterface); exact rfl) | exact QS.auto); exact rfl) | refine GG ?_ | (refine GE ?_; (first | rintro _ _ ⟨rfl, rfl⟩ | rintro _ _ ⟨g, rfl, rfl⟩ | rintro _ _ ⟨A', c', rfl, rfl⟩); (try refine ⟨SUB, ?_⟩)) | (refine GO2 ?_ ?_ <;> (refine Zs ?_; intro h; try exact Zx)) | refine GOF ?_ ?_ | fail)
  obtain ⟨gb, hgb⟩ : ∃ x, x = g := ⟨_, rfl⟩
  subst hgb
  refine TL_mem (fun w hw => bnew_mem (T8 := 5) hw) ?_
  obtain ⟨cs, hcs⟩ : ∃ cs, cs = (callsR T E).1 := ⟨_, rfl⟩
  rw [← hcs] at hca hcl h9 ⊢
  clear hcs
  have hnl : (itoa (cs.length : Nat)).length ≤ 8 := itoa_len8 ⟨by omega, by omega⟩
  have hp1 : (lnB (([Pt.str wCalls, Pt.int (cs.length : Nat)] : List Pt).map Pt.word)).length ≤ 203 := lnB_len (ws := [wCalls, itoa (cs.length : Nat)]) (by
    intro x hx
    rcases List.mem_cons.1 hx with rfl | hx
    · decide
    · rw [List.mem_singleton.1 hx]; omega)
  have hwl := witB_len T E
  repeat' (first | ((first | with_reducible (first | apply TL_q | apply TD_q0 | apply TD_q1 | apply TD_q2 | apply TD_q3) | ((with_reducible (first | apply TD_q0y | apply TD_q1y)); exact rfl; exact rfl; (with_reducible exact rfl))); (first | ((with_reducible apply QS_makeInterface); exact rfl) | exact QS.auto); exact rfl) | refine GG ?_ | (refine GE ?_; (first | rintro _ _ ⟨rfl, rfl⟩ | rintro _ _ ⟨g, rfl, rfl⟩ | rintro _ _ ⟨A', c', rfl, rfl⟩); (try refine ⟨SUB, ?_⟩)) | (refine GO2 ?_ ?_ <;> (refine Zs ?_; intro h; try exact Zx)) | refine GOF ?_ ?_ | ((with_reducible (first | apply TD_e2z | apply TD_e3z | apply TL_e | apply TD_e2 | apply TD_e3)); ((with_reducible apply ES_callX (f := 23) (X := (Option Addr × Nat) × (Option Addr × Nat)) (S1 := []) (fun x => .tuple #[.slice x.1.1 T.length x.1.2, .slice x.2.1 E.length x.2.2, .int .i64 k, .int .i64 f]) (fun x => [entOwn intEnc 1 3 x.1.1 x.1.2 T, entOwn Ev.enc 4 95 x.2.1 x.2.2 E])); exact rfl; exact Zp; (intro x; (try dsimp only); exact Za); (intro w hw; exact hrd w (hT.keeps hw.keeps globOff_nil)); exact rfl); (first | exact rfl | exact ⟨rfl, rfl, rfl⟩); (rintro _ _ ⟨⟨⟨R1, r1⟩, ⟨R2, r2⟩⟩, rfl, rfl⟩); (try refine ⟨SUB, ?_⟩)) | ((with_reducible (first | apply TD_e2z | apply TD_e3z | apply TL_e | apply TD_e2 | apply TD_e3)); ((with_reducible apply ES_callOwn (f := 12)); exact rfl; (intro w hw; exact hca R1 R2 r1 r2 w (hw.ownRd Zm (fun _ => rfl)) (hw.ownRd Zm (fun _ => rfl))); exact rfl); (first | exact rfl | exact ⟨rfl, rfl, rfl⟩); (rintro _ _ ⟨A5, c5, rfl, rfl⟩); (try refine ⟨SUB, ?_⟩)) | fail)
  all_goals first | (exfalso; contradiction) | skip
  (first | ((with_reducible (first | apply TD_e2z | apply TD_e3z | apply TL_e | apply TD_e2 | apply TD_e3)); ((with_reducible apply ES_callX (f := 24) (X := Option Addr × Nat) (S1 := [entBldr 63 5 gb _ _ _]) (fun _ => .tuple #[]) (fun x => [entBldr 63 5 gb x.1 x.2 (_ ++ lnB (([Pt.str wCalls, Pt.int (cs.length : Nat)] : List Pt).map Pt.word))])); exact rfl; exact Zp; (intro x; (try dsimp only); exact Za); (intro w hw; exact line_blk _ _ w gb _ _ _ [Pt.str wCalls, Pt.int (cs.length : Nat)] hw hT globOff_nil (by (try simp only [List.length_append, List.length_cons, List.length_nil]); omega) (by simp only [List.length_cons, List.length_nil]; omega) (ptOk_cons (p := Pt.str wCalls) (ptOk_str (by decide)) (ptOk_cons (p := Pt.int (cs.length : Nat)) (by show smI _; unfold smI; omega) ptOk_nil)) _ _ _ Zm rfl); exact rfl); (first | exact rfl | exact ⟨rfl, rfl, rfl⟩); (rintro _ _ ⟨⟨Ax, cx⟩, rfl, rfl⟩); (try refine ⟨SUB, ?_⟩)) | fail)
  repeat' (first | ((first | with_reducible (first | apply TL_q | apply TD_q0 | apply TD_q1 | apply TD_q2 | apply TD_q3) | ((with_reducible (first | apply TD_q0y | apply TD_q1y)); exact rfl; exact rfl; (with_reducible exact rfl))); (first | ((with_reducible apply QS_makeInterface); exact rfl) | exact QS.auto); exact rfl) | refine GG ?_ | (refine GE ?_; (first | rintro _ _ ⟨rfl, rfl⟩ | rintro _ _ ⟨g, rfl, rfl⟩ | rintro _ _ ⟨A', c', rfl, rfl⟩); (try refine ⟨SUB, ?_⟩)) | (refine GO2 ?_ ?_ <;> (refine Zs ?_; intro h; try exact Zx)) | refine GOF ?_ ?_ | ((with_reducible (first | apply TD_e2z | apply TD_e3z | apply TL_e | apply TD_e2 | apply TD_e3)); ((with_reducible apply ES_callX (f := 26) (X := Option Addr × Nat) (S1 := [entBldr 63 5 gb _ _ _]) (fun _ => .tuple #[]) (fun x => [entBldr 63 5 gb x.1 x.2 (_ ++ witB T E)])); exact rfl; exact Zp; (intro x; (try dsimp only); exact Za); (intro w hw; exact witnesses_mem gb _ _ _ _ _ _ _ T E w (hT.keeps hw.keeps globOff_nil) (globOff_of hT globOff_nil hw) (by (try simp only [List.length_append, List.length_cons, List.length_nil]); omega) (by omega) (by omega) (hw.ownRd (et := 3) Zm (fun _ => rfl)) (hw.ownRd (et := 95) Zm (fun _ => rfl)) (apart_own (enc := intEnc) (et := 3) hw Zm) (apart_own (enc := Ev.enc) (et := 95) hw Zm) 0 (hw.self 0)); exact rfl); (first | exact rfl | exact ⟨rfl, rfl, rfl⟩); (rintro _ _ ⟨⟨Ax, cx⟩, rfl, rfl⟩); (try refine ⟨SUB, ?_⟩)) | fail)
  all_goals first | (exfalso; omega) | skip
  refine TL_own (enc := intEnc) (ls := T) Zm (by omega) ?_
  rintro gT rfl
  repeat' (first | ((first | with_reducible (first | apply TL_q | apply TD_q0 | apply TD_q1 | apply TD_q2 | apply TD_q3) | ((with_reducible (first | apply TD_q0y | apply TD_q1y)); exact rfl; exact rfl; (with_reducible exact rfl))); (first | ((with_reducible apply QS_makeInterface); exact rfl) | exact QS.auto); exact rfl) | refine GG ?_ | (refine GE ?_; (first | rintro _ _ ⟨rfl, rfl⟩ | rintro _ _ ⟨g, rfl, rfl⟩ | rintro _ _ ⟨A', c', rfl, rfl⟩); (try refine ⟨SUB, ?_⟩)) | (refine GO2 ?_ ?_ <;> (refine Zs ?_; intro h; try exact Zx)) | refine GOF ?_ ?_ | fail)
  (first | ((with_reducible (first | apply TD_e2z | apply TD_e3z | apply TL_e | apply TD_e2 | apply TD_e3)); ((with_reducible apply ES_callX (f := 27) (X := Option Addr × Nat) (S1 := [entBldr 63 5 gb _ _ _]) (fun _ => .tuple #[]) (fun x => [entBldr 63 5 gb x.1 x.2 (_ ++ tick5 E)])); exact rfl; exact Zp; (intro x; (try dsimp only); exact Za); (intro w hw; exact single5_mem gb _ _ _ _ _ E w (hT.keeps hw.keeps globOff_nil) (globOff_of hT globOff_nil hw) (by (try simp only [List.length_append, List.length_cons, List.length_nil]); omega) (by omega) (hw.ownRd (et := 95) Zm (fun _ => rfl)) (apart_own (enc := Ev.enc) (et := 95) hw Zm) 0 (hw.self 0) T[0] hT5); exact rfl); (first | exact rfl | exact ⟨rfl, rfl, rfl⟩); (rintro _ _ ⟨⟨Ax, cx⟩, rfl, rfl⟩); (try refine ⟨SUB, ?_⟩)) | fail)
  repeat' (first | ((first | with_reducible (first | apply TL_q | apply TD_q0 | apply TD_q1 | apply TD_q2 | apply TD_q3) | ((with_reducible (first | apply TD_q0y | apply TD_q1y)); exact rfl; exact rfl; (with_reducible exact rfl))); (first | ((with_reducible apply QS_makeInterface); exact rfl) | exact QS.auto); exact rfl) | refine GG ?_ | (refine GE ?_; (first | rintro _ _ ⟨rfl, rfl⟩ | rintro _ _ ⟨g, rfl, rfl⟩ | rintro _ _ ⟨A', c', rfl, rfl⟩); (try refine ⟨SUB, ?_⟩)) | (refine GO2 ?_ ?_ <;> (refine Zs ?_; intro h; try exact Zx)) | refine GOF ?_ ?_ | fail)
  (first | ((with_reducible (first | apply TD_e2z | apply TD_e3z | apply TL_e | apply TD_e2 | apply TD_e3)); ((with_reducible apply ES_callX (f := 25) (X := Unit) (S1 := [entBldr 63 5 gb _ _ _]) (fun _ => bsv _) (fun _ => [entBldr 63 5 gb _ _ _])); exact rfl; exact Zp; (intro x; (try dsimp only); exact Za); (intro w hw; exact (bstring_mem _ (by first | exact ln_ne _ | exact app_ne (ln_ne _) | exact app_ne (app_ne (ln_ne _))) gb _ _ w (hw.holds _ List.mem_cons_self).1).mono fun _ _ h => ⟨(), h⟩); exact rfl); (first | exact rfl | exact ⟨rfl, rfl, rfl⟩); (rintro _ _ ⟨_, rfl, rfl⟩); (try refine ⟨SUB, ?_⟩)) | fail)
  repeat' (first | ((first | with_reducible (first | apply TL_q | apply TD_q0 | apply TD_q1 | apply TD_q2 | apply TD_q3) | ((with_reducible (first | apply TD_q0y | apply TD_q1y)); exact rfl; exact rfl; (with_reducible exact rfl))); (first | ((with_reducible apply QS_makeInterface); exact rfl) | exact QS.auto); exact rfl) | refine GG ?_ | (refine GE ?_; (first | rintro _ _ ⟨rfl, rfl⟩ | rintro _ _ ⟨g, rfl, rfl⟩ | rintro _ _ ⟨A', c', rfl, rfl⟩); (try refine ⟨SUB, ?_⟩)) | (refine GO2 ?_ ?_ <;> (refine Zs ?_; intro h; try exact Zx)) | refine GOF ?_ ?_ | fail)
  (refine At_ret Tryz.results7 rfl (fun w' hw => ?_))
  exact ⟨rfl, hw.below0 rfl⟩
end
end Go.Proofs.YtjdckepbihcgfaaGreatDoor

namespace Go.Proofs.YtjdckepbihcgfaaGreatDoor
open Go.RowKit Go.Lib

def txGood : Bs := [116, 104, 105, 110, 103, 115, 32, 116, 105, 99, 107, 101, 116, 10, 48, 32, 48, 32, 116, 97, 107, 101, 10, 49, 32, 48, 32, 116, 97, 107, 101, 10, 49, 32, 48, 32, 101, 110, 100, 32, 48, 10, 48, 32, 48, 32, 101, 110, 100, 32, 49, 10]
def txBad : Bs := [116, 104, 105, 110, 103, 115, 32, 116, 105, 99, 107, 101, 116, 10, 48, 32, 48, 32, 116, 97, 107, 101, 10, 48, 32, 48, 32, 101, 110, 100, 32, 49, 10]
def toGood : Bs := [99, 97, 108, 108, 115, 32, 50, 10, 116, 105, 109, 101, 32, 121, 32, 49, 32, 48, 32, 48, 32, 49, 10, 112, 101, 111, 112, 108, 101, 32, 121, 10, 99, 97, 108, 109, 32, 121, 10, 98, 97, 100, 32, 110, 111, 110, 101, 10]
def toBad : Bs := [99, 97, 108, 108, 115, 32, 49, 10, 116, 105, 109, 101, 32, 110, 10, 112, 101, 111, 112, 108, 101, 32, 110, 10, 99, 97, 108, 109, 32, 110, 10, 98, 97, 100, 32, 56, 32, 48, 32, 48, 10]
set_option maxRecDepth 100000 in
theorem good_told : verd5 txGood = toGood := by kernel_rfl
set_option maxRecDepth 100000 in
theorem bad_told : verd5 txBad = toBad := by kernel_rfl
set_option maxRecDepth 100000 in
theorem good_few : ((callsR (readR txGood).1 (readR txGood).2.1).1.length.ble 9) = true := by kernel_rfl
set_option maxRecDepth 100000 in
theorem bad_few : ((callsR (readR txBad).1 (readR txBad).2.1).1.length.ble 9) = true := by kernel_rfl
set_option maxRecDepth 100000 in
theorem good_read : (readR txGood).2.2.2 = 0 ∧ (readR txGood).1 = [5] := ⟨by kernel_rfl, by kernel_rfl⟩
set_option maxRecDepth 100000 in
theorem bad_read : (readR txBad).2.2.2 = 0 ∧ (readR txBad).1 = [5] := ⟨by kernel_rfl, by kernel_rfl⟩
set_option maxRecDepth 100000 in
theorem lives_any (w : World) (hT : TxW w) : Calls Tryz.prog 13 #[] w fun e w' => e = .returned (.bool true) ∧ Below w.heap.size w w' := by
  have hg := fun w h => run5_any txGood w (by decide) h good_read.1 good_read.2 (Nat.le_of_ble_eq_true good_few)
  have hb := fun w h => run5_any txBad w (by decide) h bad_read.1 bad_read.2 (Nat.le_of_ble_eq_true bad_few)
  rw [good_told] at hg
  rw [bad_told] at hb
  refine calls_T (S := []) [] Tryz.func13 rfl Tryz.ntmps13 (by simp) (Mem.nil _) ?_
  repeat' (first | ((first | with_reducible (first | apply TL_q | apply TD_q0 | apply TD_q1 | apply TD_q2 | apply TD_q3) | ((with_reducible (first | apply TD_q0y | apply TD_q1y)); exact rfl; exact rfl; (with_reducible exact rfl))); (first | ((with_reducible apply QS_eqlBs); exact rfl; exact rfl) | exact QS.auto); exact rfl) | refine GO ?_ | (refine GOE ?_; (first | rintro _ _ ⟨rfl, rfl⟩ | rintro _ _ ⟨g, rfl, rfl⟩ | rintro _ _ ⟨A', c', rfl, rfl⟩)) | (refine GO2 ?_ ?_ <;> (refine Zs ?_; intro h; try exact Zx)) | fail)
  (first | ((with_reducible (first | apply TD_e2z | apply TD_e3z | apply TL_e | apply TD_e2 | apply TD_e3)); ((with_reducible apply ES_callV (f := 7)); exact rfl; (intro w hw; exact hg w (hT.carry (hw.below0 rfl))); exact rfl); (first | exact rfl | exact ⟨rfl, rfl, rfl⟩); (rintro _ _ ⟨rfl, rfl⟩); (try refine ⟨SUB, ?_⟩)) | fail)
  repeat' (first | ((first | with_reducible (first | apply TL_q | apply TD_q0 | apply TD_q1 | apply TD_q2 | apply TD_q3) | ((with_reducible (first | apply TD_q0y | apply TD_q1y)); exact rfl; exact rfl; (with_reducible exact rfl))); (first | ((with_reducible apply QS_eqlBs); exact rfl; exact rfl) | exact QS.auto); exact rfl) | refine GO ?_ | (refine GOE ?_; (first | rintro _ _ ⟨rfl, rfl⟩ | rintro _ _ ⟨g, rfl, rfl⟩ | rintro _ _ ⟨A', c', rfl, rfl⟩)) | (refine GO2 ?_ ?_ <;> (refine Zs ?_; intro h; try exact Zx)) | fail)
  all_goals first | (exfalso; contradiction) | skip
  (first | ((with_reducible (first | apply TD_e2z | apply TD_e3z | apply TL_e | apply TD_e2 | apply TD_e3)); ((with_reducible apply ES_callV (f := 7)); exact rfl; (intro w hw; exact hb w (hT.carry (hw.below0 rfl))); exact rfl); (first | exact rfl | exact ⟨rfl, rfl, rfl⟩); (rintro _ _ ⟨rfl, rfl⟩); (try refine ⟨SUB, ?_⟩)) | fail)
  repeat' (first | ((first | with_reducible (first | apply TL_q | apply TD_q0 | apply TD_q1 | apply TD_q2 | apply TD_q3) | ((with_reducible (first | apply TD_q0y | apply TD_q1y)); exact rfl; exact rfl; (with_reducible exact rfl))); (first | ((with_reducible apply QS_eqlBs); exact rfl; exact rfl) | exact QS.auto); exact rfl) | refine GO ?_ | (refine GOE ?_; (first | rintro _ _ ⟨rfl, rfl⟩ | rintro _ _ ⟨g, rfl, rfl⟩ | rintro _ _ ⟨A', c', rfl, rfl⟩)) | (refine GO2 ?_ ?_ <;> (refine Zs ?_; intro h; try exact Zx)) | fail)
  all_goals ((refine At_ret Tryz.results13 rfl (fun w' hw => ?_)); exact ⟨by simp [resVal, toGood, toBad], hw.below0 rfl⟩)
end Go.Proofs.YtjdckepbihcgfaaGreatDoor

namespace Go.Proofs.YtjdckepbihcgfaaGreatDoor
open Go.RowKit Go.Lib
set_option linter.unusedSectionVars false

theorem once_all {ts : List Int} {l : List Ev} {cs : List Cl} {y z : Int} (hcr : callsR ts l = (cs, y, z)) (hz : z = 0) (h1 : ∀ i (h : i < cs.length), cs[i].from_ = (i : Int)) (h2 : ∀ i j (hi : i < j) (hj : j < cs.length), cs[i].who ≠ cs[j].who) :
    findS ts l relPeople = findS ts l relAhead ∧ findS ts l relCalm = findS ts l relAhead :=
  once_find fun h0 => by
    have e1 : (callsR ts l).1 = cs := by rw [hcr]
    have e2 : (callsR ts l).2.2 = 0 := by rw [hcr]; exact hz
    obtain ⟨_, _, ht, hm⟩ := callsR_all e2
    have e : (fewS ts l).1 = cs := by
      by_cases h9 : 9 < (callsR ts l).1.length
      · rw [fewS_large e2 h9] at h0; cases h0
      · rw [fewS_ok e2 h9]; exact e1
    rw [e]
    rw [e1] at ht hm
    refine ⟨h1, h2, fun i hi => ?_⟩
    rcases ht.to i hi with h | ⟨h, _⟩
    · exact .inl h
    · right
      refine Int.not_lt.1 fun hlt => ?_
      rw [h1 i hi] at h
      have hq : cs[i].to.toNat < cs.length := by omega
      have := hm.ne i _ hi hq
      rw [h1 _ hq] at this
      omega
set_option maxRecDepth 100000 in
theorem atOnce1_any (x y : Cl) (b : Nat) (w : World) (h1 : b < w.heap.size) (hc : w.cell? ⟨b, 0, none⟩ = some (.int .i64 x.who)) : Calls Tryz.prog 16 #[.agg (Cl.enc y).toArray, .pointer (some ⟨b, 0, none⟩)] w fun e w' => e = .returned (.bool (decide (y.who = x.who))) ∧ Below w.heap.size w w' := by
  refine calls_T (S := []) [] Tryz.func16 rfl Tryz.ntmps16 (by simp) (Mem.nil _) ?_
  repeat' (first | ((first | with_reducible (first | apply TL_q | apply TD_q0 | apply TD_q1 | apply TD_q2 | apply TD_q3) | ((with_reducible (first | apply TD_q0y | apply TD_q1y)); exact rfl; exact rfl; (with_reducible exact rfl))); (first | ((with_reducible apply QS_load); exact rfl; (apply Lds.old; assumption; simp; assumption)) | ((with_reducible apply QS_sliceHigh); exact rfl; exact rfl; omega) | exact QS.auto); exact rfl) | refine GO ?_ | (refine GOE ?_; (first | rintro _ _ ⟨rfl, rfl⟩ | rintro _ _ ⟨g, rfl, rfl⟩ | rintro _ _ ⟨A', c', rfl, rfl⟩)) | (refine GO2 ?_ ?_ <;> (refine Zs ?_; intro h; try exact Zx)) | fail)
  (refine At_ret Tryz.results16 rfl (fun w' hw => ?_))
  exact ⟨rfl, hw.below0 rfl⟩
section
variable (A B : Option Addr) (ca cl : Nat) (ts : List Int) (l : List Ev) (w : World) (hts : ts.length ≤ 9223372036854775807) (hl : l.length ≤ 9223372036854775807) (hA : RdInt w A ts) (hB : RdEv w B l) (hT : TxW w)
include hts hl hA hB hT
set_option maxRecDepth 100000 in
set_option maxHeartbeats 4000000 in
theorem topAtOnce_any : Calls Tryz.prog 4 #[.slice A ts.length ca, .slice B l.length cl] w fun e w' => e = .returned (.bool true) ∧ Below w.heap.size w w' := by
  have hsf := fun w h1 h2 => searchFind_any A B ca cl ts l w hts hl h1 h2
  have hqf := fun w h1 h2 => seqFind_any A B ca cl ts l w hts hl h1 h2
  have hqq := fun w h1 h2 => seqQuiet_any A B ca cl ts l w hts hl h1 h2
  have hca := fun w h1 h2 => callsCode_any A B ca cl ts l w hts hl h1 h2
  have hcl := callsR_len ts l
  obtain ⟨cs, y, z, hcr⟩ : ∃ cs y z, callsR ts l = (cs, y, z) := ⟨_, _, _, rfl⟩
  have hon := once_all hcr
  rw [hcr] at hca hcl
  dsimp only at hca hcl
  clear hcr
  generalize findS ts l relAhead = o1 at *
  generalize findS ts l relPeople = o2 at *
  generalize findS ts l relCalm = o3 at *
  generalize (fewS ts l).2 = F at *
  have hok := fun A c w h => ok_any A c [F, F, F, z] w (by simp) h
  refine calls_T (S := []) [] Tryz.func4 rfl Tryz.ntmps4 (by simp) (Mem.nil _) ?_
  by_cases hk : F = 0 ∧ z = 0
  · rw [decide_eq_true (show ∀ x ∈ [F, F, F, z], x = 0 by simp [hk.1, hk.2])] at hok
    obtain ⟨hF, hz⟩ := hk
    have hon := hon hz
    repeat' (first | ((first | with_reducible (first | apply TL_q | apply TD_q0 | apply TD_q1 | apply TD_q2 | apply TD_q3) | ((with_reducible (first | apply TD_q0y | apply TD_q1y)); exact rfl; exact rfl; (with_reducible exact rfl))); (first | ((with_reducible apply QS_load); exact rfl; (apply Lds.old; assumption; simp; assumption)) | ((with_reducible apply QS_sliceHigh); exact rfl; exact rfl; omega) | exact QS.auto); exact rfl) | refine GG ?_ | (refine GE ?_; (first | rintro _ _ ⟨rfl, rfl⟩ | rintro _ _ ⟨g, rfl, rfl⟩ | rintro _ _ ⟨A', c', rfl, rfl⟩); (try refine ⟨SUB, ?_⟩)) | (refine GO2 ?_ ?_ <;> (refine Zs ?_; intro h; try exact Zx)) | refine GOF ?_ ?_ | ((with_reducible (first | apply TD_e2z | apply TD_e3z | apply TL_e | apply TD_e2 | apply TD_e3)); ((with_reducible apply ES_callOwn (f := 9)); exact rfl; (intro w hw; exact hsf w (hw.rd rfl hA) (hw.rd rfl hB)); exact rfl); (first | exact rfl | exact ⟨rfl, rfl, rfl⟩); (rintro _ _ ⟨A1, c1, rfl, rfl⟩); (try refine ⟨SUB, ?_⟩)) | ((with_reducible (first | apply TD_e2z | apply TD_e3z | apply TL_e | apply TD_e2 | apply TD_e3)); ((with_reducible apply ES_callOwn (f := 10)); exact rfl; (intro w hw; exact hqf w (hw.rd rfl hA) (hw.rd rfl hB)); exact rfl); (first | exact rfl | exact ⟨rfl, rfl, rfl⟩); (rintro _ _ ⟨A2, c2, rfl, rfl⟩); (try refine ⟨SUB, ?_⟩)) | ((with_reducible (first | apply TD_e2z | apply TD_e3z | apply TL_e | apply TD_e2 | apply TD_e3)); ((with_reducible apply ES_callOwn (f := 11)); exact rfl; (intro w hw; exact hqq w (hw.rd rfl hA) (hw.rd rfl hB)); exact rfl); (first | exact rfl | exact ⟨rfl, rfl, rfl⟩); (rintro _ _ ⟨A3, c3, rfl, rfl⟩); (try refine ⟨SUB, ?_⟩)) | ((with_reducible (first | apply TD_e2z | apply TD_e3z | apply TL_e | apply TD_e2 | apply TD_e3)); ((with_reducible apply ES_callOwn (f := 12)); exact rfl; (intro w hw; exact hca w (hw.rd rfl hA) (hw.rd rfl hB)); exact rfl); (first | exact rfl | exact ⟨rfl, rfl, rfl⟩); (rintro _ _ ⟨A5, c5, rfl, rfl⟩); (try refine ⟨SUB, ?_⟩)) | ((with_reducible (first | apply TD_e2z | apply TD_e3z | apply TL_e | apply TD_e2 | apply TD_e3)); ((with_reducible apply ES_callV (f := 13)); exact rfl; (intro w hw; exact lives_any w (hT.carry (hw.below0 rfl))); exact rfl); (first | exact rfl | exact ⟨rfl, rfl, rfl⟩); (rintro _ _ ⟨rfl, rfl⟩); (try refine ⟨SUB, ?_⟩)) | ((with_reducible (first | apply TD_e2z | apply TD_e3z | apply TL_e | apply TD_e2 | apply TD_e3)); ((with_reducible apply ES_callV (f := 14)); exact rfl; (intro w hw; exact hok _ 4 w (RdInt.of_list (l := [F, F, F, z]) (hw.theBlk Zm))); exact rfl); (first | exact rfl | exact ⟨rfl, rfl, rfl⟩); (rintro _ _ ⟨rfl, rfl⟩); (try refine ⟨SUB, ?_⟩)) | fail)
    all_goals first | (exfalso; contradiction) | skip
    clear hsf hqf hqq hca hok
    refine T_loop (X := Nat) (fun k => [(61, .int .i64 (k : Nat)), (60, .int .i64 cs.length), (59, .slice A5 cs.length c5), (14, .slice A5 cs.length c5), (12, .bool o3.isSome), (9, .bool o2.isSome), (6, .bool o1.isSome)]) (fun _ => [entOwn Cl.enc 7 36 A5 c5 cs])
      (fun k => k ≤ cs.length ∧ (∀ i (h : i < cs.length), i < k → cs[i].from_ = (i : Int)) ∧ ∀ i j (hi : i < j) (hj : j < cs.length), j < k → cs[i].who ≠ cs[j].who) (fun k => cs.length - k) 0 ⟨by omega, fun i _ h => by omega, fun i j _ _ h => by omega⟩ Ze (fun _ hw => hw.sel Zl) ?_
    rintro k ⟨hkl, hfr, hwh⟩
    by_cases hkn : k < cs.length
    · refine T_ownLe (enc := Cl.enc) (ls := cs) Zm ?_
      intro hcap
      refine T_own (enc := Cl.enc) (ls := cs) Zm (by omega) ?_
      rintro gC rfl
      have hlt : (cs.take k).length = k := by rw [List.length_take]; omega
      have hcl : ∀ (n gm : Nat) (S : List Ent) (w1 : World), Mem ⟨n, [], w⟩ w1 S → entBlk gm 36 (Cl.enc cs[k]).toArray ∈ S → entOwn Cl.enc 7 36 (some ⟨gC, 0, none⟩) c5 cs ∈ S →
          Calls Tryz.prog 15 #[.slice (some ⟨gC, 0, none⟩) k c5, .func (.func 16) #[] [.pointer (some ⟨gm, 0, none⟩)].toArray] w1 fun e w' => e = .returned (.bool ((cs.take k).any fun y => decide (y.who = cs[k].who))) ∧ Below w1.heap.size w1 w' := fun n gm S w1 hw m1 m2 => by
        have b3 : Blk w1 gm 36 (Cl.enc cs[k]).toArray := (hw.holds _ m1).1
        have hrd := RdE.take (hw.ownRd m2 (fun _ => rfl)) k
        have := contCall_any 16 (fun y => decide (y.who = cs[k].who)) [.pointer (some ⟨gm, 0, none⟩)] (some ⟨gC, 0, none⟩) c5 (cs.take k) w1 hrd (by omega) (fun s _ w2 h2 => atOnce1_any cs[k] s gm w2 (b3.carry h2).lt ((b3.carry h2).cell 0))
        rwa [hlt] at this
      have hany : (cs.take k).any (fun y => decide (y.who = cs[k].who)) = false → ∀ i (h : i < k), cs[i].who ≠ cs[k].who := fun h i hi e => by
        rw [List.any_eq_false] at h
        exact h cs[i] (List.mem_iff_getElem.2 ⟨i, by omega, by rw [List.getElem_take]⟩) (decide_eq_true e)
      generalize hq : (cs.take k).any (fun y => decide (y.who = cs[k].who)) = q at hcl hany
      by_cases hf : cs[k].from_ = (k : Int)
      · repeat' (first | ((first | with_reducible (first | apply TL_q | apply TD_q0 | apply TD_q1 | apply TD_q2 | apply TD_q3) | ((with_reducible (first | apply TD_q0y | apply TD_q1y)); exact rfl; exact rfl; (with_reducible exact rfl))); (first | ((with_reducible apply QS_load); exact rfl; (apply Lds.old; assumption; simp; assumption)) | ((with_reducible apply QS_sliceHigh); exact rfl; exact rfl; omega) | exact QS.auto); exact rfl) | refine GG ?_ | (refine GE ?_; (first | rintro _ _ ⟨rfl, rfl⟩ | rintro _ _ ⟨g, rfl, rfl⟩ | rintro _ _ ⟨A', c', rfl, rfl⟩); (try refine ⟨SUB, ?_⟩)) | (refine GO2 ?_ ?_ <;> (refine Zs ?_; intro h; try exact Zx)) | refine GOF ?_ ?_ | ((with_reducible (first | apply TD_e2z | apply TD_e3z | apply TL_e | apply TD_e2 | apply TD_e3)); ((with_reducible apply ES_callV (f := 15) (v := .bool q)); exact rfl; (intro w1 hw; exact hcl _ _ _ w1 hw Zm Zm); exact rfl); (first | exact rfl | exact ⟨rfl, rfl, rfl⟩); (rintro _ _ ⟨rfl, rfl⟩); (try refine ⟨SUB, ?_⟩)) | fail)
        all_goals first | (exfalso; contradiction) | skip
        · (refine At_ret Tryz.results4 rfl (fun w' hw => ?_))
          exact ⟨rfl, hw.below0 rfl⟩
        · apply At_rounds (k + 1)
          (case hE => exact Ze)
          (case hS => exact fun w' hw => hw.sel Zl)
          (case hμ => omega)
          (case hp => exact ⟨by omega, fun i h hi => by
            rcases Nat.lt_or_ge i k with h' | h'
            · exact hfr i h h'
            · obtain rfl : i = k := by omega
              exact hf, fun i j hij hj hjk => by
            rcases Nat.lt_or_ge j k with h' | h'
            · exact hwh i j hij hj h'
            · obtain rfl : j = k := by omega
              exact hany (by assumption) i hij⟩)
      · repeat' (first | ((first | with_reducible (first | apply TL_q | apply TD_q0 | apply TD_q1 | apply TD_q2 | apply TD_q3) | ((with_reducible (first | apply TD_q0y | apply TD_q1y)); exact rfl; exact rfl; (with_reducible exact rfl))); (first | ((with_reducible apply QS_load); exact rfl; (apply Lds.old; assumption; simp; assumption)) | ((with_reducible apply QS_sliceHigh); exact rfl; exact rfl; omega) | exact QS.auto); exact rfl) | refine GG ?_ | (refine GE ?_; (first | rintro _ _ ⟨rfl, rfl⟩ | rintro _ _ ⟨g, rfl, rfl⟩ | rintro _ _ ⟨A', c', rfl, rfl⟩); (try refine ⟨SUB, ?_⟩)) | (refine GO2 ?_ ?_ <;> (refine Zs ?_; intro h; try exact Zx)) | refine GOF ?_ ?_ | fail)
        all_goals first | (exfalso; contradiction) | skip
        (refine At_ret Tryz.results4 rfl (fun w' hw => ?_))
        exact ⟨rfl, hw.below0 rfl⟩
    · obtain rfl : k = cs.length := by omega
      obtain ⟨e1, e2⟩ := hon (fun i h => hfr i h h) (fun i j hi hj => hwh i j hi hj hj)
      subst e1 e2
      repeat' (first | ((first | with_reducible (first | apply TL_q | apply TD_q0 | apply TD_q1 | apply TD_q2 | apply TD_q3) | ((with_reducible (first | apply TD_q0y | apply TD_q1y)); exact rfl; exact rfl; (with_reducible exact rfl))); (first | ((with_reducible apply QS_load); exact rfl; (apply Lds.old; assumption; simp; assumption)) | ((with_reducible apply QS_sliceHigh); exact rfl; exact rfl; omega) | exact QS.auto); exact rfl) | refine GG ?_ | (refine GE ?_; (first | rintro _ _ ⟨rfl, rfl⟩ | rintro _ _ ⟨g, rfl, rfl⟩ | rintro _ _ ⟨A', c', rfl, rfl⟩); (try refine ⟨SUB, ?_⟩)) | (refine GO2 ?_ ?_ <;> (refine Zs ?_; intro h; try exact Zx)) | refine GOF ?_ ?_ | fail)
      all_goals ((refine At_ret Tryz.results4 rfl (fun w' hw => ?_)); exact ⟨by simp [resVal], hw.below0 rfl⟩)
  · rw [decide_eq_false (show ¬ ∀ x ∈ [F, F, F, z], x = 0 by simpa using hk)] at hok
    repeat' (first | ((first | with_reducible (first | apply TL_q | apply TD_q0 | apply TD_q1 | apply TD_q2 | apply TD_q3) | ((with_reducible (first | apply TD_q0y | apply TD_q1y)); exact rfl; exact rfl; (with_reducible exact rfl))); (first | ((with_reducible apply QS_load); exact rfl; (apply Lds.old; assumption; simp; assumption)) | ((with_reducible apply QS_sliceHigh); exact rfl; exact rfl; omega) | exact QS.auto); exact rfl) | refine GG ?_ | (refine GE ?_; (first | rintro _ _ ⟨rfl, rfl⟩ | rintro _ _ ⟨g, rfl, rfl⟩ | rintro _ _ ⟨A', c', rfl, rfl⟩); (try refine ⟨SUB, ?_⟩)) | (refine GO2 ?_ ?_ <;> (refine Zs ?_; intro h; try exact Zx)) | refine GOF ?_ ?_ | ((with_reducible (first | apply TD_e2z | apply TD_e3z | apply TL_e | apply TD_e2 | apply TD_e3)); ((with_reducible apply ES_callOwn (f := 9)); exact rfl; (intro w hw; exact hsf w (hw.rd rfl hA) (hw.rd rfl hB)); exact rfl); (first | exact rfl | exact ⟨rfl, rfl, rfl⟩); (rintro _ _ ⟨A1, c1, rfl, rfl⟩); (try refine ⟨SUB, ?_⟩)) | ((with_reducible (first | apply TD_e2z | apply TD_e3z | apply TL_e | apply TD_e2 | apply TD_e3)); ((with_reducible apply ES_callOwn (f := 10)); exact rfl; (intro w hw; exact hqf w (hw.rd rfl hA) (hw.rd rfl hB)); exact rfl); (first | exact rfl | exact ⟨rfl, rfl, rfl⟩); (rintro _ _ ⟨A2, c2, rfl, rfl⟩); (try refine ⟨SUB, ?_⟩)) | ((with_reducible (first | apply TD_e2z | apply TD_e3z | apply TL_e | apply TD_e2 | apply TD_e3)); ((with_reducible apply ES_callOwn (f := 11)); exact rfl; (intro w hw; exact hqq w (hw.rd rfl hA) (hw.rd rfl hB)); exact rfl); (first | exact rfl | exact ⟨rfl, rfl, rfl⟩); (rintro _ _ ⟨A3, c3, rfl, rfl⟩); (try refine ⟨SUB, ?_⟩)) | ((with_reducible (first | apply TD_e2z | apply TD_e3z | apply TL_e | apply TD_e2 | apply TD_e3)); ((with_reducible apply ES_callOwn (f := 12)); exact rfl; (intro w hw; exact hca w (hw.rd rfl hA) (hw.rd rfl hB)); exact rfl); (first | exact rfl | exact ⟨rfl, rfl, rfl⟩); (rintro _ _ ⟨A5, c5, rfl, rfl⟩); (try refine ⟨SUB, ?_⟩)) | ((with_reducible (first | apply TD_e2z | apply TD_e3z | apply TL_e | apply TD_e2 | apply TD_e3)); ((with_reducible apply ES_callV (f := 13)); exact rfl; (intro w hw; exact lives_any w (hT.carry (hw.below0 rfl))); exact rfl); (first | exact rfl | exact ⟨rfl, rfl, rfl⟩); (rintro _ _ ⟨rfl, rfl⟩); (try refine ⟨SUB, ?_⟩)) | ((with_reducible (first | apply TD_e2z | apply TD_e3z | apply TL_e | apply TD_e2 | apply TD_e3)); ((with_reducible apply ES_callV (f := 14)); exact rfl; (intro w hw; exact hok _ 4 w (RdInt.of_list (l := [F, F, F, z]) (hw.theBlk Zm))); exact rfl); (first | exact rfl | exact ⟨rfl, rfl, rfl⟩); (rintro _ _ ⟨rfl, rfl⟩); (try refine ⟨SUB, ?_⟩)) | fail)
    all_goals first | (exfalso; contradiction) | skip
    all_goals ((refine At_ret Tryz.results4 rfl (fun w' hw => ?_)); exact ⟨by simp [resVal], hw.below0 rfl⟩)
end
end Go.Proofs.YtjdckepbihcgfaaGreatDoor

namespace Go.Proofs.YtjdckepbihcgfaaGreatDoor
open Go.RowKit Go.Lib

/-- a listed variable of an interface's type holds an interface value -/
theorem cell_of_laid_iface {P : Program} {n nm : String} {d : DataW Unit} {r : List (String × DataW Unit)} {W : World} {g : Nat} {ti : TypeId} {ms : Array (String × TypeId)}
    (h : laidMet P ((n, .iface nm d) :: r) W) (hg : P.globalNamed n = some g) (ht : (P.globals[g]?).map (·.type) = some ti) (hi : P.underlying ti = some (.interface ms)) :
    ∃ ev, W.cell? ⟨g, 0, none⟩ = some ev ∧ (ev = .nilIface ∨ ∃ te pe, ev = .iface te pe) := by
  obtain ⟨ps, ⟨g0, t0, cs0, f0, p0, q0, hg0, ht0, hv0, hd0, _, e0⟩, _, hrows⟩ := h
  obtain rfl := Option.some.inj (hg.symm.trans hg0)
  obtain rfl := Option.some.inj (ht.symm.trans ht0)
  obtain ⟨l0⟩ := cs0
  obtain ⟨f1, u, v, hl, _, _⟩ := iface_of_trod hi hd0
  have hl' : l0 = [.iface u v] := hl
  subst hl'
  exact ⟨.iface u v, by simpa using World.var?_cell hg hv0 0, .inr ⟨u, v, rfl⟩⟩
theorem pow_eq : (Rows.laid_internal_strconv_uint64pow10 : DataW Unit) = tabData .u64 pow10Tab := by kernel_rfl
theorem txW_of {W : World} (hsh : W.ShapedOpen Tryz.prog) {r r3 r4 : List (String × DataW Unit)} (hp : laidMet Tryz.prog (("internal/strconv.uint64pow10", Rows.laid_internal_strconv_uint64pow10) :: r) W) (hr : laidMet Tryz.prog (("strconv.ErrRange", Rows.laid_strconv_ErrRange) :: r3) W) (hs : laidMet Tryz.prog (("strconv.ErrSyntax", Rows.laid_strconv_ErrSyntax) :: r4) W) : TxW W := by
  rw [pow_eq] at hp
  refine ⟨?_, ?_, ?_, ?_⟩
  · exact Go.Proofs.cell_of_shapedOpen_int (t := 3) (zero := #[.int .i64 0]) hsh (of_decide_eq_true (by kernel_rfl)) (by kernel_rfl) rfl (by kernel_rfl) (by kernel_rfl) Tryz.underlying3
  · exact tabIs_of_head (g := 3) (t := 283) (e := 255) (by kernel_rfl) (by kernel_rfl) Tryz.underlying283 Tryz.underlying255 (by kernel_rfl) (by kernel_rfl) hp
  · exact cell_of_laid_iface hs (by kernel_rfl) (by kernel_rfl) Tryz.underlying115
  · exact cell_of_laid_iface hr (by kernel_rfl) (by kernel_rfl) Tryz.underlying115
end Go.Proofs.YtjdckepbihcgfaaGreatDoor
