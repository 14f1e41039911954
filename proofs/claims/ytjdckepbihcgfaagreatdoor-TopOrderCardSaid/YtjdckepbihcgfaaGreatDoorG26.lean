/- Lemmas for the walks (ToA, TnA). No condition. -/
import Derived.Test.YtjdckepbihcgfaaGreatDoorG25
import Derived.Test.YtjdckepbihcgfaaGreatDoorG17
import Derived.Test.YtjdckepbihcgfaaGreatDoorG18
import Derived.Test.YtjdckepbihcgfaaGreatDoorG15
import Derived.Test.YtjdckepbihcgfaaGreatDoorG14
import Derived.Test.YtjdckepbihcgfaaGreatDoorG06
import Derived.Test.YtjdckepbihcgfaaGreatDoorG21
import Derived.Test.YtjdckepbihcgfaaGreatDoorG20
set_option linter.unusedSimpArgs false
set_option linter.unusedVariables false
set_option linter.unusedSectionVars false
set_option linter.unnecessarySimpa false
namespace Go.Proofs.YtjdckepbihcgfaaGreatDoor
open Go.RowKit Go.Lib
set_option linter.unusedSectionVars false

theorem Stp.enc_mkT (a x : Int) : Stp.enc ⟨a, x⟩ = [.int .i64 a, .int .i64 x] := rfl
theorem QS_subN {P : Program} {C : Ctx} {E : Slots} {S : List Ent} {ty ty2 ty3 : Nat} {x y : Operand} {m n : Int} {j : Nat} (hx : evo E x = some (.int .i64 m)) (hy : evo E y = some (.int .i64 n)) (hj : m - n = (j : Nat)) (hb : (j : Int) ≤ 9223372036854775807) : QS P C E S (.binOp .sub ty2 x y ty3) ty (.int .i64 (j : Nat)) := by
  rw [← hj]
  exact QS_sub hx hy (by omega) (by omega)
set_option maxRecDepth 100000 in
theorem ordTo_any (y : Cl) (w : World) : Calls Tryz.prog 18 #[.agg (Cl.enc y).toArray] w fun e w' => e = .returned (.bool (decide (y.to = -1))) ∧ Below w.heap.size w w' := by
  refine calls_T (S := []) [] Tryz.func18 rfl Tryz.ntmps18 (by simp) (Mem.nil _) ?_
  repeat' (first | ((first | with_reducible (first | apply TL_q | apply TD_q0 | apply TD_q1 | apply TD_q2 | apply TD_q3) | ((with_reducible (first | apply TD_q0y | apply TD_q1y)); exact rfl; exact rfl; (with_reducible exact rfl))); (first | ((with_reducible apply QS_subN (j := k)); exact rfl; exact rfl; omega; omega) | ((with_reducible apply QS_load); exact rfl; exact Lds.own0 (enc := Stp.enc) Zm (by intro x; rfl) hk1 (by rw [hpa, Stp.enc_mkT]; rfl)) | ((with_reducible apply QS_load); exact rfl; exact Lds.own0 (enc := Stp.enc) Zm (by intro x; rfl) hk2 (by rw [hpb, Stp.enc_mkT]; rfl)) | exact QS.auto); exact rfl) | refine GO ?_ | (refine GOE ?_; (first | rintro _ _ ⟨rfl, rfl⟩ | rintro _ _ ⟨g, rfl, rfl⟩ | rintro _ _ ⟨A', c', rfl, rfl⟩)) | (refine GO2 ?_ ?_ <;> (refine Zs ?_; intro h; try exact Zx)) | fail)
  (refine At_ret Tryz.results18 rfl (fun w' hw => ?_))
  exact ⟨rfl, hw.below0 rfl⟩
section
variable (A B : Option Addr) (ca cl : Nat) (ts : List Int) (l : List Ev) (w : World) (hts : ts.length ≤ 9223372036854775807) (hl : l.length ≤ 9223372036854775807) (hA : RdInt w A ts) (hB : RdEv w B l) (hT : TxW w)
include hts hl hA hB hT
set_option maxRecDepth 100000 in
set_option maxHeartbeats 4000000 in
theorem topOrder_any : Calls Tryz.prog 5 #[.slice A ts.length ca, .slice B l.length cl] w fun e w' => e = .returned (.bool true) ∧ Below w.heap.size w w' := by
  have hsf := fun w h1 h2 => searchFind_any A B ca cl ts l w hts hl h1 h2
  have hca := fun w h1 h2 => callsCode_any A B ca cl ts l w hts hl h1 h2
  have hcl := callsR_len ts l
  obtain ⟨n, f, G, hah0, hgo⟩ : ∃ n f G, (∀ A c w, RdE Cl.enc 7 w A (callsR ts l).1 → Calls Tryz.prog 17 #[.slice A (callsR ts l).1.length c] w fun e w' => e = .returned (.tuple #[.agg (relCells n f), .int .i64 G]) ∧ Below w.heap.size w w') ∧
      ((fewS ts l).2 = 0 → (callsR ts l).2.2 = 0 → G = 0 → n = (callsR ts l).1.length ∧ f = relAhead (callsR ts l).1 ∧ SeaOk ts (callsR ts l).1 ∧ findS ts l relAhead = foundS ts (callsR ts l).1 (relAhead (callsR ts l).1)) := by
    by_cases h12 : (callsR ts l).1.length ≤ 12
    · refine ⟨_, _, 0, fun A c w h => ahead_ok A c _ w h h12, fun hF hz _ => ⟨rfl, rfl, ?_⟩⟩
      by_cases h9 : 9 < (callsR ts l).1.length
      · rw [fewS_large hz h9] at hF; cases hF
      · have := fewS_facts hF
        have hf : findS ts l relAhead = foundS ts (fewS ts l).1 (relAhead (fewS ts l).1) := by unfold findS; rw [if_pos hF]
        rw [hf, fewS_ok hz h9]
        rw [fewS_ok hz h9] at this
        exact ⟨this, rfl⟩
    · refine ⟨0, fun _ => 0, 2, fun A c w _ => ahead_large A c _ w (by omega) (by omega), fun _ _ h => by cases h⟩
  have hah := fun A c w h => hah0 A c w h
  clear hah0
  generalize findS ts l relAhead = o1 at *
  generalize (fewS ts l).2 = F at *
  obtain ⟨cs, y, z, hcr⟩ : ∃ cs y z, callsR ts l = (cs, y, z) := ⟨_, _, _, rfl⟩
  rw [hcr] at hca hcl hah hgo
  dsimp only at hca hcl hah hgo
  clear hcr
  have hok := fun A c w h => ok_any A c [F, z, G] w (by simp) h
  have hok2 := fun A c w h => ok_any A c [0, 0] w (by simp) h
  rw [decide_eq_true (show ∀ x ∈ ([0, 0] : List Int), x = 0 by simp)] at hok2
  have hct := fun A c w h => contCall_any 18 (fun y => decide (y.to = -1)) [] A c cs w h (by omega) (fun s _ w' _ => ordTo_any s w')
  have hany : (cs.any fun y => decide (y.to = -1)) = false → ∀ c ∈ cs, c.to ≠ -1 := fun h c hc e => by
    rw [List.any_eq_false] at h
    exact h c hc (decide_eq_true e)
  generalize (cs.any fun y => decide (y.to = -1)) = q at hct hany
  refine calls_T (S := []) [] Tryz.func5 rfl Tryz.ntmps5 (by simp) (Mem.nil _) ?_
  by_cases hk : F = 0 ∧ z = 0 ∧ G = 0
  · rw [decide_eq_true (show ∀ x ∈ [F, z, G], x = 0 by simp [hk.1, hk.2.1, hk.2.2])] at hok
    obtain ⟨hF, hz, hG⟩ := hk
    obtain ⟨hn, hf, hsea, ho⟩ := hgo hF hz hG
    have h9 := hsea.few
    subst hn hf
    cases o1 with
    | none =>
      simp only [Option.getD_none, Option.isSome_none] at hsf
      clear hgo ho
      repeat' (first | ((first | with_reducible (first | apply TL_q | apply TD_q0 | apply TD_q1 | apply TD_q2 | apply TD_q3) | ((with_reducible (first | apply TD_q0y | apply TD_q1y)); exact rfl; exact rfl; (with_reducible exact rfl))); (first | ((with_reducible apply QS_subN (j := k)); exact rfl; exact rfl; omega; omega) | ((with_reducible apply QS_load); exact rfl; exact Lds.own0 (enc := Stp.enc) Zm (by intro x; rfl) hk1 (by rw [hpa, Stp.enc_mkT]; rfl)) | ((with_reducible apply QS_load); exact rfl; exact Lds.own0 (enc := Stp.enc) Zm (by intro x; rfl) hk2 (by rw [hpb, Stp.enc_mkT]; rfl)) | exact QS.auto); exact rfl) | refine GG ?_ | (refine GE ?_; (first | rintro _ _ ⟨rfl, rfl⟩ | rintro _ _ ⟨g, rfl, rfl⟩ | rintro _ _ ⟨A', c', rfl, rfl⟩); (try refine ⟨SUB, ?_⟩)) | (refine GO2 ?_ ?_ <;> (refine Zs ?_; intro h; try exact Zx)) | refine GOF ?_ ?_ | ((with_reducible apply T_draw (id := 12) 18 (OT.seq [(0, 0), (0, 1), (0, 2), (0, 3), (0, 4), (0, 6), (0, 9), (0, 10), (0, 11), (0, 12), (0, 16), (1, 5), (0, 7), (1, 8), (1, 13), (0, 14), (0, 15), (0, 17), (3, 18)] .nil)); kernel_rfl; exact rfl; kernel_rfl; (repeat (first | with_reducible exact Blind.body | with_reducible apply Blind.seq | with_reducible apply Blind.block))) | ((with_reducible (first | apply TD_e2z | apply TD_e3z | apply TL_e | apply TD_e2 | apply TD_e3)); ((with_reducible apply ES_callOwn (f := 9)); exact rfl; (intro w hw; exact hsf w (hw.rd rfl hA) (hw.rd rfl hB)); exact rfl); (first | exact rfl | exact ⟨rfl, rfl, rfl⟩); (rintro _ _ ⟨A1, c1, rfl, rfl⟩); (try refine ⟨SUB, ?_⟩)) | ((with_reducible (first | apply TD_e2z | apply TD_e3z | apply TL_e | apply TD_e2 | apply TD_e3)); ((with_reducible apply ES_callOwn (f := 12)); exact rfl; (intro w hw; exact hca w (hw.rd rfl hA) (hw.rd rfl hB)); exact rfl); (first | exact rfl | exact ⟨rfl, rfl, rfl⟩); (rintro _ _ ⟨A5, c5, rfl, rfl⟩); (try refine ⟨SUB, ?_⟩)) | ((with_reducible (first | apply TD_e2z | apply TD_e3z | apply TL_e | apply TD_e2 | apply TD_e3)); ((with_reducible apply ES_callV (f := 17)); exact rfl; (intro w hw; exact hah A5 c5 w (hw.ownRd (et := 36) Zm (fun _ => rfl))); exact rfl); (first | exact rfl | exact ⟨rfl, rfl, rfl⟩); (rintro _ _ ⟨rfl, rfl⟩); (try refine ⟨SUB, ?_⟩)) | ((with_reducible (first | apply TD_e2z | apply TD_e3z | apply TL_e | apply TD_e2 | apply TD_e3)); ((with_reducible apply ES_callV (f := 13)); exact rfl; (intro w hw; exact lives_any w (hT.carry (hw.below0 rfl))); exact rfl); (first | exact rfl | exact ⟨rfl, rfl, rfl⟩); (rintro _ _ ⟨rfl, rfl⟩); (try refine ⟨SUB, ?_⟩)) | ((with_reducible (first | apply TD_e2z | apply TD_e3z | apply TL_e | apply TD_e2 | apply TD_e3)); ((with_reducible apply ES_callV (f := 14)); exact rfl; (intro w hw; exact hok _ 3 w (RdInt.of_list (l := [F, z, G]) (hw.theBlk Zm))); exact rfl); (first | exact rfl | exact ⟨rfl, rfl, rfl⟩); (rintro _ _ ⟨rfl, rfl⟩); (try refine ⟨SUB, ?_⟩)) | ((with_reducible (first | apply TD_e2z | apply TD_e3z | apply TL_e | apply TD_e2 | apply TD_e3)); ((with_reducible apply ES_callV (f := 15)); exact rfl; (intro w hw; exact hct A5 c5 w (hw.ownRd (et := 36) Zm (fun _ => rfl))); exact rfl); (first | exact rfl | exact ⟨rfl, rfl, rfl⟩); (rintro _ _ ⟨rfl, rfl⟩); (try refine ⟨SUB, ?_⟩)) | fail)
      all_goals first | (exfalso; contradiction) | skip
      all_goals ((refine At_ret Tryz.results5 rfl (fun w' hw => ?_)); exact ⟨by simp [resVal], hw.below0 rfl⟩)
    | some r =>
      simp only [Option.getD_some, Option.isSome_some] at hsf
      have hord := fun h => ord_all hsea ho.symm h
      clear hgo ho
      cases q with
      | true =>
        clear hord
        repeat' (first | ((first | with_reducible (first | apply TL_q | apply TD_q0 | apply TD_q1 | apply TD_q2 | apply TD_q3) | ((with_reducible (first | apply TD_q0y | apply TD_q1y)); exact rfl; exact rfl; (with_reducible exact rfl))); (first | ((with_reducible apply QS_subN (j := k)); exact rfl; exact rfl; omega; omega) | ((with_reducible apply QS_load); exact rfl; exact Lds.own0 (enc := Stp.enc) Zm (by intro x; rfl) hk1 (by rw [hpa, Stp.enc_mkT]; rfl)) | ((with_reducible apply QS_load); exact rfl; exact Lds.own0 (enc := Stp.enc) Zm (by intro x; rfl) hk2 (by rw [hpb, Stp.enc_mkT]; rfl)) | exact QS.auto); exact rfl) | refine GG ?_ | (refine GE ?_; (first | rintro _ _ ⟨rfl, rfl⟩ | rintro _ _ ⟨g, rfl, rfl⟩ | rintro _ _ ⟨A', c', rfl, rfl⟩); (try refine ⟨SUB, ?_⟩)) | (refine GO2 ?_ ?_ <;> (refine Zs ?_; intro h; try exact Zx)) | refine GOF ?_ ?_ | ((with_reducible apply T_draw (id := 12) 18 (OT.seq [(0, 0), (0, 1), (0, 2), (0, 3), (0, 4), (0, 6), (0, 9), (0, 10), (0, 11), (0, 12), (0, 16), (1, 5), (0, 7), (1, 8), (1, 13), (0, 14), (0, 15), (0, 17), (3, 18)] .nil)); kernel_rfl; exact rfl; kernel_rfl; (repeat (first | with_reducible exact Blind.body | with_reducible apply Blind.seq | with_reducible apply Blind.block))) | ((with_reducible (first | apply TD_e2z | apply TD_e3z | apply TL_e | apply TD_e2 | apply TD_e3)); ((with_reducible apply ES_callOwn (f := 9)); exact rfl; (intro w hw; exact hsf w (hw.rd rfl hA) (hw.rd rfl hB)); exact rfl); (first | exact rfl | exact ⟨rfl, rfl, rfl⟩); (rintro _ _ ⟨A1, c1, rfl, rfl⟩); (try refine ⟨SUB, ?_⟩)) | ((with_reducible (first | apply TD_e2z | apply TD_e3z | apply TL_e | apply TD_e2 | apply TD_e3)); ((with_reducible apply ES_callOwn (f := 12)); exact rfl; (intro w hw; exact hca w (hw.rd rfl hA) (hw.rd rfl hB)); exact rfl); (first | exact rfl | exact ⟨rfl, rfl, rfl⟩); (rintro _ _ ⟨A5, c5, rfl, rfl⟩); (try refine ⟨SUB, ?_⟩)) | ((with_reducible (first | apply TD_e2z | apply TD_e3z | apply TL_e | apply TD_e2 | apply TD_e3)); ((with_reducible apply ES_callV (f := 17)); exact rfl; (intro w hw; exact hah A5 c5 w (hw.ownRd (et := 36) Zm (fun _ => rfl))); exact rfl); (first | exact rfl | exact ⟨rfl, rfl, rfl⟩); (rintro _ _ ⟨rfl, rfl⟩); (try refine ⟨SUB, ?_⟩)) | ((with_reducible (first | apply TD_e2z | apply TD_e3z | apply TL_e | apply TD_e2 | apply TD_e3)); ((with_reducible apply ES_callV (f := 13)); exact rfl; (intro w hw; exact lives_any w (hT.carry (hw.below0 rfl))); exact rfl); (first | exact rfl | exact ⟨rfl, rfl, rfl⟩); (rintro _ _ ⟨rfl, rfl⟩); (try refine ⟨SUB, ?_⟩)) | ((with_reducible (first | apply TD_e2z | apply TD_e3z | apply TL_e | apply TD_e2 | apply TD_e3)); ((with_reducible apply ES_callV (f := 14)); exact rfl; (intro w hw; exact hok _ 3 w (RdInt.of_list (l := [F, z, G]) (hw.theBlk Zm))); exact rfl); (first | exact rfl | exact ⟨rfl, rfl, rfl⟩); (rintro _ _ ⟨rfl, rfl⟩); (try refine ⟨SUB, ?_⟩)) | ((with_reducible (first | apply TD_e2z | apply TD_e3z | apply TL_e | apply TD_e2 | apply TD_e3)); ((with_reducible apply ES_callV (f := 15)); exact rfl; (intro w hw; exact hct A5 c5 w (hw.ownRd (et := 36) Zm (fun _ => rfl))); exact rfl); (first | exact rfl | exact ⟨rfl, rfl, rfl⟩); (rintro _ _ ⟨rfl, rfl⟩); (try refine ⟨SUB, ?_⟩)) | fail)
        all_goals first | (exfalso; contradiction) | skip
        all_goals ((refine At_ret Tryz.results5 rfl (fun w' hw => ?_)); exact ⟨by simp [resVal], hw.below0 rfl⟩)
      | false =>
        obtain ⟨hrl, hat, hlt, hout, hfi, hfi2, hpos, hone⟩ := hord (hany rfl)
        have hc1 := fun w => count_fine (f := relAhead cs) w h9 (hlt 0 (Nat.zero_le _)) (hout 0 (Nat.zero_le _)) hfi
        have hc2 := fun w => count_fine (f := nextF (callW r) (relAhead cs) (cs.length - 1)) w h9 (hlt _ (Nat.le_refl _)) (hout _ (Nat.le_refl _)) hfi2
        rw [hone] at hc2
        have hcs := cnt_small (relAhead cs) h9
        generalize cntO cs.length (relAhead cs) cs.length [] = m at hc1 hpos hcs
        repeat' (first | ((first | with_reducible (first | apply TL_q | apply TD_q0 | apply TD_q1 | apply TD_q2 | apply TD_q3) | ((with_reducible (first | apply TD_q0y | apply TD_q1y)); exact rfl; exact rfl; (with_reducible exact rfl))); (first | ((with_reducible apply QS_subN (j := k)); exact rfl; exact rfl; omega; omega) | ((with_reducible apply QS_load); exact rfl; exact Lds.own0 (enc := Stp.enc) Zm (by intro x; rfl) hk1 (by rw [hpa, Stp.enc_mkT]; rfl)) | ((with_reducible apply QS_load); exact rfl; exact Lds.own0 (enc := Stp.enc) Zm (by intro x; rfl) hk2 (by rw [hpb, Stp.enc_mkT]; rfl)) | exact QS.auto); exact rfl) | refine GG ?_ | (refine GE ?_; (first | rintro _ _ ⟨rfl, rfl⟩ | rintro _ _ ⟨g, rfl, rfl⟩ | rintro _ _ ⟨A', c', rfl, rfl⟩); (try refine ⟨SUB, ?_⟩)) | (refine GO2 ?_ ?_ <;> (refine Zs ?_; intro h; try exact Zx)) | refine GOF ?_ ?_ | ((with_reducible (first | apply TD_e2z | apply TD_e3z | apply TL_e | apply TD_e2 | apply TD_e3)); ((with_reducible apply ES_callOwn (f := 9)); exact rfl; (intro w hw; exact hsf w (hw.rd rfl hA) (hw.rd rfl hB)); exact rfl); (first | exact rfl | exact ⟨rfl, rfl, rfl⟩); (rintro _ _ ⟨A1, c1, rfl, rfl⟩); (try refine ⟨SUB, ?_⟩)) | ((with_reducible (first | apply TD_e2z | apply TD_e3z | apply TL_e | apply TD_e2 | apply TD_e3)); ((with_reducible apply ES_callOwn (f := 12)); exact rfl; (intro w hw; exact hca w (hw.rd rfl hA) (hw.rd rfl hB)); exact rfl); (first | exact rfl | exact ⟨rfl, rfl, rfl⟩); (rintro _ _ ⟨A5, c5, rfl, rfl⟩); (try refine ⟨SUB, ?_⟩)) | ((with_reducible (first | apply TD_e2z | apply TD_e3z | apply TL_e | apply TD_e2 | apply TD_e3)); ((with_reducible apply ES_callV (f := 17)); exact rfl; (intro w hw; exact hah A5 c5 w (hw.ownRd (et := 36) Zm (fun _ => rfl))); exact rfl); (first | exact rfl | exact ⟨rfl, rfl, rfl⟩); (rintro _ _ ⟨rfl, rfl⟩); (try refine ⟨SUB, ?_⟩)) | ((with_reducible (first | apply TD_e2z | apply TD_e3z | apply TL_e | apply TD_e2 | apply TD_e3)); ((with_reducible apply ES_callV (f := 13)); exact rfl; (intro w hw; exact lives_any w (hT.carry (hw.below0 rfl))); exact rfl); (first | exact rfl | exact ⟨rfl, rfl, rfl⟩); (rintro _ _ ⟨rfl, rfl⟩); (try refine ⟨SUB, ?_⟩)) | ((with_reducible (first | apply TD_e2z | apply TD_e3z | apply TL_e | apply TD_e2 | apply TD_e3)); ((with_reducible apply ES_callV (f := 14)); exact rfl; (intro w hw; exact hok _ 3 w (RdInt.of_list (l := [F, z, G]) (hw.theBlk Zm))); exact rfl); (first | exact rfl | exact ⟨rfl, rfl, rfl⟩); (rintro _ _ ⟨rfl, rfl⟩); (try refine ⟨SUB, ?_⟩)) | ((with_reducible (first | apply TD_e2z | apply TD_e3z | apply TL_e | apply TD_e2 | apply TD_e3)); ((with_reducible apply ES_callV (f := 15)); exact rfl; (intro w hw; exact hct A5 c5 w (hw.ownRd (et := 36) Zm (fun _ => rfl))); exact rfl); (first | exact rfl | exact ⟨rfl, rfl, rfl⟩); (rintro _ _ ⟨rfl, rfl⟩); (try refine ⟨SUB, ?_⟩)) | ((with_reducible (first | apply TD_e2z | apply TD_e3z | apply TL_e | apply TD_e2 | apply TD_e3)); ((with_reducible apply ES_callV (f := 19)); exact rfl; (intro w hw; exact hc1 w); exact rfl); (first | exact rfl | exact ⟨rfl, rfl, rfl⟩); (rintro _ _ ⟨rfl, rfl⟩); (try refine ⟨SUB, ?_⟩)) | fail)
        all_goals first | (exfalso; contradiction) | skip
        clear hsf hca hah hok hct
        obtain ⟨gk, rfl⟩ : ∃ x, x = g := ⟨_, rfl⟩
        obtain ⟨gr, rfl⟩ : ∃ x, x = g := ⟨_, rfl⟩
        refine T_loop (X := Nat) (fun k => [(15, .int .i64 (k + 1 : Nat)), (14, .int .i64 0), (13, .int .i64 (m : Nat)), (11, .pointer (some ⟨gr, 0, none⟩)), (8, .slice A5 cs.length c5), (5, .slice A1 r.length c1)]) (fun k => [entBlk gr 43 (relCells cs.length (nextF (callW r) (relAhead cs) k)), entOwn Cl.enc 7 36 A5 c5 cs, entOwn Stp.enc 2 49 A1 c1 r])
          (fun k => k ≤ cs.length - 1) (fun k => cs.length - k) 0 (Nat.zero_le _) Ze (fun w' hw => by (try dsimp only); rw [show nextF (callW r) (relAhead cs) 0 = relAhead cs from rfl]; exact hw.sel Zl) ?_
        intro k hk
        have hl1 := hlt k hk
        by_cases hkn : k + 1 < cs.length
        · have hk1 : k < r.length := by omega
          have hk2 : k + 1 < r.length := by omega
          obtain ⟨a, ha, ⟨xa, hpa⟩, hga⟩ := hat k hk1
          obtain ⟨b, hb, ⟨xb, hpb⟩, hgb⟩ := hat (k + 1) hk2
          have hnx : nextF (callW r) (relAhead cs) (k + 1) = upd (nextF (callW r) (relAhead cs) k) a (nextF (callW r) (relAhead cs) k a ||| 2 ^ b) := by rw [nextF, hga, hgb]
          have h16 := fit_16 (n := cs.length) (by omega) hl1
          refine T_own (enc := Stp.enc) (ls := r) Zm (by omega) ?_
          rintro gS rfl
          generalize nextF (callW r) (relAhead cs) k = Fk at *
          have hlt := h16 a
          have hpm := pow_lt_16 (m := b) (by omega)
          repeat' (first | ((first | with_reducible (first | apply TL_q | apply TD_q0 | apply TD_q1 | apply TD_q2 | apply TD_q3) | ((with_reducible (first | apply TD_q0y | apply TD_q1y)); exact rfl; exact rfl; (with_reducible exact rfl))); (first | ((with_reducible apply QS_subN (j := k)); exact rfl; exact rfl; omega; omega) | ((with_reducible apply QS_load); exact rfl; exact Lds.own0 (enc := Stp.enc) Zm (by intro x; rfl) hk1 (by rw [hpa, Stp.enc_mkT]; rfl)) | ((with_reducible apply QS_load); exact rfl; exact Lds.own0 (enc := Stp.enc) Zm (by intro x; rfl) hk2 (by rw [hpb, Stp.enc_mkT]; rfl)) | exact QS.auto); exact rfl) | refine GG ?_ | (refine GE ?_; (first | rintro _ _ ⟨rfl, rfl⟩ | rintro _ _ ⟨g, rfl, rfl⟩ | rintro _ _ ⟨A', c', rfl, rfl⟩); (try refine ⟨SUB, ?_⟩)) | (refine GO2 ?_ ?_ <;> (refine Zs ?_; intro h; try exact Zx)) | refine GOF ?_ ?_ | ((with_reducible apply T_draw (id := 12) 18 (OT.seq [(0, 0), (0, 1), (0, 2), (0, 3), (0, 4), (0, 6), (0, 9), (0, 10), (0, 11), (0, 12), (0, 16), (1, 5), (0, 7), (1, 8), (1, 13), (0, 14), (0, 15), (0, 17), (3, 18)] .nil)); kernel_rfl; exact rfl; kernel_rfl; (repeat (first | with_reducible exact Blind.body | with_reducible apply Blind.seq | with_reducible apply Blind.block))) | fail)
          all_goals first | (exfalso; contradiction) | skip
          apply At_rounds (k + 1)
          (case hE => exact Ze)
          (case hS => intro w' hw; rw [hnx]; exact hw.sel Zl)
          (case hμ => omega)
          (case hp => omega)
        · obtain rfl : k = cs.length - 1 := by omega
          generalize nextF (callW r) (relAhead cs) (cs.length - 1) = Fk at *
          repeat' (first | ((first | with_reducible (first | apply TL_q | apply TD_q0 | apply TD_q1 | apply TD_q2 | apply TD_q3) | ((with_reducible (first | apply TD_q0y | apply TD_q1y)); exact rfl; exact rfl; (with_reducible exact rfl))); (first | ((with_reducible apply QS_subN (j := k)); exact rfl; exact rfl; omega; omega) | ((with_reducible apply QS_load); exact rfl; exact Lds.own0 (enc := Stp.enc) Zm (by intro x; rfl) hk1 (by rw [hpa, Stp.enc_mkT]; rfl)) | ((with_reducible apply QS_load); exact rfl; exact Lds.own0 (enc := Stp.enc) Zm (by intro x; rfl) hk2 (by rw [hpb, Stp.enc_mkT]; rfl)) | exact QS.auto); exact rfl) | refine GG ?_ | (refine GE ?_; (first | rintro _ _ ⟨rfl, rfl⟩ | rintro _ _ ⟨g, rfl, rfl⟩ | rintro _ _ ⟨A', c', rfl, rfl⟩); (try refine ⟨SUB, ?_⟩)) | (refine GO2 ?_ ?_ <;> (refine Zs ?_; intro h; try exact Zx)) | refine GOF ?_ ?_ | ((with_reducible (first | apply TD_e2z | apply TD_e3z | apply TL_e | apply TD_e2 | apply TD_e3)); ((with_reducible apply ES_callV (f := 19)); exact rfl; (intro w hw; exact hc2 w); exact rfl); (first | exact rfl | exact ⟨rfl, rfl, rfl⟩); (rintro _ _ ⟨rfl, rfl⟩); (try refine ⟨SUB, ?_⟩)) | ((with_reducible (first | apply TD_e2z | apply TD_e3z | apply TL_e | apply TD_e2 | apply TD_e3)); ((with_reducible apply ES_callV (f := 14)); exact rfl; (intro w hw; exact hok2 _ 2 w (RdInt.of_list (l := [0, 0]) (hw.theBlk Zm))); exact rfl); (first | exact rfl | exact ⟨rfl, rfl, rfl⟩); (rintro _ _ ⟨rfl, rfl⟩); (try refine ⟨SUB, ?_⟩)) | fail)
          all_goals first | (exfalso; omega) | (exfalso; contradiction) | skip
          all_goals ((refine At_ret Tryz.results5 rfl (fun w' hw => ?_)); exact ⟨by simp [resVal, hrl], hw.below0 rfl⟩)
  · rw [decide_eq_false (show ¬ ∀ x ∈ [F, z, G], x = 0 by simpa using hk)] at hok
    clear hgo
    repeat' (first | ((first | with_reducible (first | apply TL_q | apply TD_q0 | apply TD_q1 | apply TD_q2 | apply TD_q3) | ((with_reducible (first | apply TD_q0y | apply TD_q1y)); exact rfl; exact rfl; (with_reducible exact rfl))); (first | ((with_reducible apply QS_subN (j := k)); exact rfl; exact rfl; omega; omega) | ((with_reducible apply QS_load); exact rfl; exact Lds.own0 (enc := Stp.enc) Zm (by intro x; rfl) hk1 (by rw [hpa, Stp.enc_mkT]; rfl)) | ((with_reducible apply QS_load); exact rfl; exact Lds.own0 (enc := Stp.enc) Zm (by intro x; rfl) hk2 (by rw [hpb, Stp.enc_mkT]; rfl)) | exact QS.auto); exact rfl) | refine GG ?_ | (refine GE ?_; (first | rintro _ _ ⟨rfl, rfl⟩ | rintro _ _ ⟨g, rfl, rfl⟩ | rintro _ _ ⟨A', c', rfl, rfl⟩); (try refine ⟨SUB, ?_⟩)) | (refine GO2 ?_ ?_ <;> (refine Zs ?_; intro h; try exact Zx)) | refine GOF ?_ ?_ | ((with_reducible apply T_draw (id := 12) 18 (OT.seq [(0, 0), (0, 1), (0, 2), (0, 3), (0, 4), (0, 6), (0, 9), (0, 10), (0, 11), (0, 12), (0, 16), (1, 5), (0, 7), (1, 8), (1, 13), (0, 14), (0, 15), (0, 17), (3, 18)] .nil)); kernel_rfl; exact rfl; kernel_rfl; (repeat (first | with_reducible exact Blind.body | with_reducible apply Blind.seq | with_reducible apply Blind.block))) | ((with_reducible (first | apply TD_e2z | apply TD_e3z | apply TL_e | apply TD_e2 | apply TD_e3)); ((with_reducible apply ES_callOwn (f := 9)); exact rfl; (intro w hw; exact hsf w (hw.rd rfl hA) (hw.rd rfl hB)); exact rfl); (first | exact rfl | exact ⟨rfl, rfl, rfl⟩); (rintro _ _ ⟨A1, c1, rfl, rfl⟩); (try refine ⟨SUB, ?_⟩)) | ((with_reducible (first | apply TD_e2z | apply TD_e3z | apply TL_e | apply TD_e2 | apply TD_e3)); ((with_reducible apply ES_callOwn (f := 12)); exact rfl; (intro w hw; exact hca w (hw.rd rfl hA) (hw.rd rfl hB)); exact rfl); (first | exact rfl | exact ⟨rfl, rfl, rfl⟩); (rintro _ _ ⟨A5, c5, rfl, rfl⟩); (try refine ⟨SUB, ?_⟩)) | ((with_reducible (first | apply TD_e2z | apply TD_e3z | apply TL_e | apply TD_e2 | apply TD_e3)); ((with_reducible apply ES_callV (f := 17)); exact rfl; (intro w hw; exact hah A5 c5 w (hw.ownRd (et := 36) Zm (fun _ => rfl))); exact rfl); (first | exact rfl | exact ⟨rfl, rfl, rfl⟩); (rintro _ _ ⟨rfl, rfl⟩); (try refine ⟨SUB, ?_⟩)) | ((with_reducible (first | apply TD_e2z | apply TD_e3z | apply TL_e | apply TD_e2 | apply TD_e3)); ((with_reducible apply ES_callV (f := 13)); exact rfl; (intro w hw; exact lives_any w (hT.carry (hw.below0 rfl))); exact rfl); (first | exact rfl | exact ⟨rfl, rfl, rfl⟩); (rintro _ _ ⟨rfl, rfl⟩); (try refine ⟨SUB, ?_⟩)) | ((with_reducible (first | apply TD_e2z | apply TD_e3z | apply TL_e | apply TD_e2 | apply TD_e3)); ((with_reducible apply ES_callV (f := 14)); exact rfl; (intro w hw; exact hok _ 3 w (RdInt.of_list (l := [F, z, G]) (hw.theBlk Zm))); exact rfl); (first | exact rfl | exact ⟨rfl, rfl, rfl⟩); (rintro _ _ ⟨rfl, rfl⟩); (try refine ⟨SUB, ?_⟩)) | ((with_reducible (first | apply TD_e2z | apply TD_e3z | apply TL_e | apply TD_e2 | apply TD_e3)); ((with_reducible apply ES_callV (f := 15)); exact rfl; (intro w hw; exact hct A5 c5 w (hw.ownRd (et := 36) Zm (fun _ => rfl))); exact rfl); (first | exact rfl | exact ⟨rfl, rfl, rfl⟩); (rintro _ _ ⟨rfl, rfl⟩); (try refine ⟨SUB, ?_⟩)) | fail)
    all_goals first | (exfalso; contradiction) | skip
    all_goals ((refine At_ret Tryz.results5 rfl (fun w' hw => ?_)); exact ⟨by simp [resVal], hw.below0 rfl⟩)
end
end Go.Proofs.YtjdckepbihcgfaaGreatDoor

namespace Go.Proofs.YtjdckepbihcgfaaGreatDoor
open Go.RowKit Go.Lib
set_option linter.unusedSectionVars false

theorem fresh_takeT {q : List Nat} {k : Nat} (h : k < q.length) : fresh (q.take (k + 1)) = max (fresh (q.take k)) (q[k] + 1) := by
  rw [List.take_succ_eq_append_getElem h, fresh_snoc]
theorem fresh_le {q : List Nat} (h : ∀ x ∈ q, x < 12) (k : Nat) : fresh (q.take k) ≤ 12 := by
  have key : ∀ (l : List Nat) (m : Nat), m ≤ 12 → (∀ x ∈ l, x < 12) → l.foldl (fun m k => max m (k + 1)) m ≤ 12 := by
    intro l
    induction l with
    | nil => intro m hm _; exact hm
    | cons x l ih =>
      intro m hm hx
      rw [List.foldl_cons]
      exact ih _ (by have := hx x List.mem_cons_self; omega) fun y hy => hx y (List.mem_cons_of_mem _ hy)
  exact key _ 0 (Nat.zero_le _) fun x hx => h x (List.mem_of_mem_take hx)
section
variable (A B : Option Addr) (ca cl : Nat) (ts : List Int) (l : List Ev) (w : World) (hts : ts.length ≤ 9223372036854775807) (hl : l.length ≤ 9223372036854775807) (hA : RdInt w A ts) (hB : RdEv w B l) (hT : TxW w)
include hts hl hA hB hT
set_option maxRecDepth 100000 in
set_option maxHeartbeats 4000000 in
theorem topOpen_any : Calls Tryz.prog 6 #[.slice A ts.length ca, .slice B l.length cl] w fun e w' => e = .returned (.bool true) ∧ Below w.heap.size w w' := by
  have hca := fun w h1 h2 => callsCode_any A B ca cl ts l w hts hl h1 h2
  have hcl := callsR_len ts l
  obtain ⟨n, f, G, hah0, hgo⟩ : ∃ n f G, (∀ A c w, RdE Cl.enc 7 w A (callsR ts l).1 → Calls Tryz.prog 17 #[.slice A (callsR ts l).1.length c] w fun e w' => e = .returned (.tuple #[.agg (relCells n f), .int .i64 G]) ∧ Below w.heap.size w w') ∧
      (G = 0 → n = (callsR ts l).1.length ∧ f = relAhead (callsR ts l).1 ∧ (callsR ts l).1.length ≤ 12) := by
    by_cases h12 : (callsR ts l).1.length ≤ 12
    · exact ⟨_, _, 0, fun A c w h => ahead_ok A c _ w h h12, fun _ => ⟨rfl, rfl, h12⟩⟩
    · exact ⟨0, fun _ => 0, 2, fun A c w _ => ahead_large A c _ w (by omega) (by omega), fun h => by cases h⟩
  have hah := fun A c w h => hah0 A c w h
  clear hah0
  have hop := open_all (ts := ts) (l := l)
  obtain ⟨cs, y, z, hcr⟩ : ∃ cs y z, callsR ts l = (cs, y, z) := ⟨_, _, _, rfl⟩
  rw [hcr] at hca hcl hah hgo hop
  dsimp only at hca hcl hah hgo hop
  have h200 : z = 0 → l.length ≤ 200 := fun h => (callsR_inv (ts := ts) (l := l) (by rw [hcr]; exact h)).2.1
  clear hcr
  have hok := fun A c w h => ok_any A c [z, G] w (by simp) h
  have hok2 := fun A c w h => ok_any A c [0, 0, 0] w (by simp) h
  rw [decide_eq_true (show ∀ x ∈ ([0, 0, 0] : List Int), x = 0 by simp)] at hok2
  refine calls_T (S := []) [] Tryz.func6 rfl Tryz.ntmps6 (by simp) (Mem.nil _) ?_
  by_cases hk : z = 0 ∧ G = 0
  · rw [decide_eq_true (show ∀ x ∈ [z, G], x = 0 by simp [hk.1, hk.2])] at hok
    obtain ⟨hz, hG⟩ := hk
    obtain ⟨hn, hf, h12⟩ := hgo hG
    subst hn hf
    have h200 := h200 hz
    obtain ⟨many, q, hchk, hmany, hF, hP, hwl, hco, hfr, hql, hq12, hm12⟩ := hop hz h12
    have hlt0 : ∀ i, relAhead cs i < 2 ^ cs.length := fun i => relN_lt_n _ _ i
    have h16 := fun i => fit_16 h12 hlt0 i
    have hck := fit_chk h12 hlt0 (relAhead_out cs)
    have hap := fun w => apartL_ok cs.length (relAhead cs) w h12 (fun i _ => h16 i) hck hF.acyc
    have hch := fun w => chainsL_ok cs.length (relAhead cs) w h12 (fun i _ => h16 i) hck hF.acyc hP q hco
    have hsl := spL_len l.length cs
    have hme := fun A c w h => meets_ok A c (spL l.length cs) w (by omega) h hchk
    rw [hmany] at hme
    generalize (meets (spL l.length cs)).1 = mt at hme
    generalize wideTo (closedF cs.length (relAhead cs)) (2 ^ cs.length) = al at *
    clear hgo hop hco hP hF hck h16 hlt0 hchk hmany
    repeat' (first | ((first | with_reducible (first | apply TL_q | apply TD_q0 | apply TD_q1 | apply TD_q2 | apply TD_q3) | ((with_reducible (first | apply TD_q0y | apply TD_q1y)); exact rfl; exact rfl; (with_reducible exact rfl))); (first | ((with_reducible apply QS_load); exact rfl; exact Lds.own1 (enc := natEnc) Zm (by intro x; rfl) hkq rfl) | exact QS.auto); exact rfl) | refine GG ?_ | (refine GE ?_; (first | rintro _ _ ⟨rfl, rfl⟩ | rintro _ _ ⟨g, rfl, rfl⟩ | rintro _ _ ⟨A', c', rfl, rfl⟩); (try refine ⟨SUB, ?_⟩)) | (refine GO2 ?_ ?_ <;> (refine Zs ?_; intro h; try exact Zx)) | refine GOF ?_ ?_ | ((with_reducible (first | apply TD_e2z | apply TD_e3z | apply TL_e | apply TD_e2 | apply TD_e3)); ((with_reducible apply ES_callOwn (f := 12)); exact rfl; (intro w hw; exact hca w (hw.rd rfl hA) (hw.rd rfl hB)); exact rfl); (first | exact rfl | exact ⟨rfl, rfl, rfl⟩); (rintro _ _ ⟨A5, c5, rfl, rfl⟩); (try refine ⟨SUB, ?_⟩)) | ((with_reducible (first | apply TD_e2z | apply TD_e3z | apply TL_e | apply TD_e2 | apply TD_e3)); ((with_reducible apply ES_callV (f := 17)); exact rfl; (intro w hw; exact hah A5 c5 w (hw.ownRd (et := 36) Zm (fun _ => rfl))); exact rfl); (first | exact rfl | exact ⟨rfl, rfl, rfl⟩); (rintro _ _ ⟨rfl, rfl⟩); (try refine ⟨SUB, ?_⟩)) | ((with_reducible (first | apply TD_e2z | apply TD_e3z | apply TL_e | apply TD_e2 | apply TD_e3)); ((with_reducible apply ES_callV (f := 13)); exact rfl; (intro w hw; exact lives_any w (hT.carry (hw.below0 rfl))); exact rfl); (first | exact rfl | exact ⟨rfl, rfl, rfl⟩); (rintro _ _ ⟨rfl, rfl⟩); (try refine ⟨SUB, ?_⟩)) | ((with_reducible (first | apply TD_e2z | apply TD_e3z | apply TL_e | apply TD_e2 | apply TD_e3)); ((with_reducible apply ES_callV (f := 14)); exact rfl; (intro w hw; exact hok _ 2 w (RdInt.of_list (l := [z, G]) (hw.theBlk Zm))); exact rfl); (first | exact rfl | exact ⟨rfl, rfl, rfl⟩); (rintro _ _ ⟨rfl, rfl⟩); (try refine ⟨SUB, ?_⟩)) | fail)
    all_goals first | (exfalso; contradiction) | skip
    obtain ⟨gk, rfl⟩ : ∃ x, x = g := ⟨_, rfl⟩
    obtain ⟨gr, rfl⟩ : ∃ x, x = g := ⟨_, rfl⟩
    clear hca hah hok
    refine T_loop (X := Nat × Option Addr × Nat) (fun x => [(48, .int .i64 (x.1 : Nat)), (47, .int .i64 cs.length), (46, .slice A5 cs.length c5), (10, .slice x.2.1 (spL l.length (cs.take x.1)).length x.2.2), (8, .pointer (some ⟨gr, 0, none⟩)), (1, .slice B l.length cl)]) (fun x => [entOwn Span.enc 2 52 x.2.1 x.2.2 (spL l.length (cs.take x.1)), entBlk gr 43 (relCells cs.length (relAhead cs)), entOwn Cl.enc 7 36 A5 c5 cs])
      (fun x => x.1 ≤ cs.length) (fun x => cs.length - x.1) (0, none, 0) (by (try dsimp only); omega) (by (try dsimp only); rw [show spL l.length (cs.take 0) = [] from rfl]; exact Ze) (fun w' hw => by (try dsimp only); rw [show spL l.length (cs.take 0) = [] from rfl]; exact (hw.nilOwn Span.enc 2 52).sel Zl) ?_
    rintro ⟨k, AL, cL⟩ hkn
    dsimp only at hkn ⊢
    by_cases hkl : k < cs.length
    · refine T_own (enc := Cl.enc) (ls := cs) Zm (by omega) ?_
      rintro gC rfl
      have hs := spL_succ (L := l.length) hkl
      have hLl : (spL l.length (cs.take k)).length = k := by rw [spL_len, List.length_take]; omega
      have hsc : spC l.length cs[k] = ⟨cs[k].from_, if cs[k].to = -1 then (l.length : Int) else cs[k].to⟩ := rfl
      generalize spL l.length (cs.take k) = SL at *
      by_cases hto : cs[k].to = -1
      · rw [if_pos hto] at hsc
        rw [hsc] at hs
        repeat' (first | ((first | with_reducible (first | apply TL_q | apply TD_q0 | apply TD_q1 | apply TD_q2 | apply TD_q3) | ((with_reducible (first | apply TD_q0y | apply TD_q1y)); exact rfl; exact rfl; (with_reducible exact rfl))); (first | ((with_reducible apply QS_load); exact rfl; exact Lds.own1 (enc := natEnc) Zm (by intro x; rfl) hkq rfl) | exact QS.auto); exact rfl) | refine GG ?_ | (refine GE ?_; (first | rintro _ _ ⟨rfl, rfl⟩ | rintro _ _ ⟨g, rfl, rfl⟩ | rintro _ _ ⟨A', c', rfl, rfl⟩); (try refine ⟨SUB, ?_⟩)) | (refine GO2 ?_ ?_ <;> (refine Zs ?_; intro h; try exact Zx)) | refine GOF ?_ ?_ | ((with_reducible (first | apply TD_e2z | apply TD_e3z | apply TL_e | apply TD_e2 | apply TD_e3)); ((with_reducible apply ES_append1 (enc := Span.enc) (xx := (⟨cs[k].from_, (l.length : Int)⟩ : Span))); exact rfl; exact rfl; (repeat (first | with_reducible exact List.mem_cons_self | with_reducible apply List.mem_cons_of_mem)); exact rfl; exact fun _ => rfl; exact fun _ => rfl; (intro A' c'; first | ((repeat (first | with_reducible exact Upd.here _ _ _ | with_reducible apply Upd.there)); done) | (repeat (first | exact Upd.here _ _ _ | apply Upd.there))); (omega); decide; exact rfl); (first | exact rfl | exact ⟨rfl, rfl, rfl⟩); (rintro _ _ ⟨A', c', rfl, rfl⟩); (try refine ⟨SUB, ?_⟩)) | fail)
        all_goals first | (exfalso; contradiction) | skip
        all_goals (apply At_rounds (k + 1, A', c'); (case hE => (try dsimp only); rw [hs]; exact Ze); (case hS => (try dsimp only); rw [hs]; exact fun w' hw => hw.sel Zl); (case hμ => (try dsimp only); omega); (case hp => (try dsimp only); omega))
      · rw [if_neg hto] at hsc
        rw [hsc] at hs
        repeat' (first | ((first | with_reducible (first | apply TL_q | apply TD_q0 | apply TD_q1 | apply TD_q2 | apply TD_q3) | ((with_reducible (first | apply TD_q0y | apply TD_q1y)); exact rfl; exact rfl; (with_reducible exact rfl))); (first | ((with_reducible apply QS_load); exact rfl; exact Lds.own1 (enc := natEnc) Zm (by intro x; rfl) hkq rfl) | exact QS.auto); exact rfl) | refine GG ?_ | (refine GE ?_; (first | rintro _ _ ⟨rfl, rfl⟩ | rintro _ _ ⟨g, rfl, rfl⟩ | rintro _ _ ⟨A', c', rfl, rfl⟩); (try refine ⟨SUB, ?_⟩)) | (refine GO2 ?_ ?_ <;> (refine Zs ?_; intro h; try exact Zx)) | refine GOF ?_ ?_ | ((with_reducible (first | apply TD_e2z | apply TD_e3z | apply TL_e | apply TD_e2 | apply TD_e3)); ((with_reducible apply ES_append1 (enc := Span.enc) (xx := (⟨cs[k].from_, cs[k].to⟩ : Span))); exact rfl; exact rfl; (repeat (first | with_reducible exact List.mem_cons_self | with_reducible apply List.mem_cons_of_mem)); exact rfl; exact fun _ => rfl; exact fun _ => rfl; (intro A' c'; first | ((repeat (first | with_reducible exact Upd.here _ _ _ | with_reducible apply Upd.there)); done) | (repeat (first | exact Upd.here _ _ _ | apply Upd.there))); (omega); decide; exact rfl); (first | exact rfl | exact ⟨rfl, rfl, rfl⟩); (rintro _ _ ⟨A', c', rfl, rfl⟩); (try refine ⟨SUB, ?_⟩)) | fail)
        all_goals first | (exfalso; contradiction) | skip
        all_goals (apply At_rounds (k + 1, A', c'); (case hE => (try dsimp only); rw [hs]; exact Ze); (case hS => (try dsimp only); rw [hs]; exact fun w' hw => hw.sel Zl); (case hμ => (try dsimp only); omega); (case hp => (try dsimp only); omega))
    · obtain rfl : k = cs.length := by omega
      rw [List.take_length]
      generalize spL l.length cs = SL at *
      repeat' (first | ((first | with_reducible (first | apply TL_q | apply TD_q0 | apply TD_q1 | apply TD_q2 | apply TD_q3) | ((with_reducible (first | apply TD_q0y | apply TD_q1y)); exact rfl; exact rfl; (with_reducible exact rfl))); (first | ((with_reducible apply QS_load); exact rfl; exact Lds.own1 (enc := natEnc) Zm (by intro x; rfl) hkq rfl) | exact QS.auto); exact rfl) | refine GG ?_ | (refine GE ?_; (first | rintro _ _ ⟨rfl, rfl⟩ | rintro _ _ ⟨g, rfl, rfl⟩ | rintro _ _ ⟨A', c', rfl, rfl⟩); (try refine ⟨SUB, ?_⟩)) | (refine GO2 ?_ ?_ <;> (refine Zs ?_; intro h; try exact Zx)) | refine GOF ?_ ?_ | ((with_reducible (first | apply TD_e2z | apply TD_e3z | apply TL_e | apply TD_e2 | apply TD_e3)); ((with_reducible apply ES_callV (f := 20)); exact rfl; (intro w hw; exact hme _ _ w (rdSpan_of (hw.ownRd (et := 52) Zm (fun _ => rfl)))); exact rfl); (first | exact rfl | exact ⟨rfl, rfl, rfl⟩); (rintro _ _ ⟨rfl, rfl⟩); (try refine ⟨SUB, ?_⟩)) | ((with_reducible (first | apply TD_e2z | apply TD_e3z | apply TL_e | apply TD_e2 | apply TD_e3)); ((with_reducible apply ES_callOwn (f := 21)); exact rfl; (intro w hw; exact hap w); exact rfl); (first | exact rfl | exact ⟨rfl, rfl, rfl⟩); (rintro _ _ ⟨A17, c17, rfl, rfl⟩); (try refine ⟨SUB, ?_⟩)) | ((with_reducible (first | apply TD_e2z | apply TD_e3z | apply TL_e | apply TD_e2 | apply TD_e3)); ((with_reducible apply ES_callOwn (f := 22)); exact rfl; (intro w hw; exact hch w); exact rfl); (first | exact rfl | exact ⟨rfl, rfl, rfl⟩); (rintro _ _ ⟨A19, c19, rfl, rfl⟩); (try refine ⟨SUB, ?_⟩)) | ((with_reducible (first | apply TD_e2z | apply TD_e3z | apply TL_e | apply TD_e2 | apply TD_e3)); ((with_reducible apply ES_callV (f := 14)); exact rfl; (intro w hw; exact hok2 _ 3 w (RdInt.of_list (l := [0, 0, 0]) (hw.theBlk Zm))); exact rfl); (first | exact rfl | exact ⟨rfl, rfl, rfl⟩); (rintro _ _ ⟨rfl, rfl⟩); (try refine ⟨SUB, ?_⟩)) | fail)
      all_goals first | (exfalso; contradiction) | (exfalso; omega) | skip
      refine T_loop (X := Nat × Int) (fun x => [(96, .int .i64 (x.1 : Nat)), (95, .int .i64 q.length), (94, .slice A19 q.length c19), (21, .int .i64 x.2), (15, .int .i64 (many : Nat))]) (fun _ => [entOwn natEnc 1 3 A19 c19 q])
        (fun x => x.1 ≤ q.length ∧ x.2 = (fresh (q.take x.1) : Nat)) (fun x => q.length - x.1) (0, 0) ⟨by (try dsimp only); omega, rfl⟩ (by (try dsimp only); exact Ze) (fun _ hw => hw.sel Zl) ?_
      rintro ⟨k, m⟩ ⟨hk, hm⟩
      dsimp only at hk hm ⊢
      by_cases hkq : k < q.length
      · have hfs := fresh_takeT hkq
        have hfl := fresh_le hq12 k
        have hx := hq12 q[k] (List.getElem_mem _)
        refine T_own (enc := natEnc) (ls := q) Zm (by omega) ?_
        rintro gQ rfl
        generalize fresh (q.take k) = fk at *
        repeat' (first | ((first | with_reducible (first | apply TL_q | apply TD_q0 | apply TD_q1 | apply TD_q2 | apply TD_q3) | ((with_reducible (first | apply TD_q0y | apply TD_q1y)); exact rfl; exact rfl; (with_reducible exact rfl))); (first | ((with_reducible apply QS_load); exact rfl; exact Lds.own1 (enc := natEnc) Zm (by intro x; rfl) hkq rfl) | exact QS.auto); exact rfl) | refine GG ?_ | (refine GE ?_; (first | rintro _ _ ⟨rfl, rfl⟩ | rintro _ _ ⟨g, rfl, rfl⟩ | rintro _ _ ⟨A', c', rfl, rfl⟩); (try refine ⟨SUB, ?_⟩)) | (refine GO2 ?_ ?_ <;> (refine Zs ?_; intro h; try exact Zx)) | refine GOF ?_ ?_ | fail)
        all_goals first | (exfalso; contradiction) | skip
        apply At_rounds (k + 1, max m ((q[k] : Nat) + 1))
        (case hE => (try dsimp only); exact Ze)
        (case hS => exact fun w' hw => hw.sel Zl)
        (case hμ => (try dsimp only); omega)
        (case hp => exact ⟨by (try dsimp only); omega, by (try dsimp only); rw [hfs, hm]; omega⟩)
      · obtain rfl : k = q.length := by omega
        rw [List.take_length, hfr] at hm
        subst hm
        repeat' (first | ((first | with_reducible (first | apply TL_q | apply TD_q0 | apply TD_q1 | apply TD_q2 | apply TD_q3) | ((with_reducible (first | apply TD_q0y | apply TD_q1y)); exact rfl; exact rfl; (with_reducible exact rfl))); (first | ((with_reducible apply QS_load); exact rfl; exact Lds.own1 (enc := natEnc) Zm (by intro x; rfl) hkq rfl) | exact QS.auto); exact rfl) | refine GG ?_ | (refine GE ?_; (first | rintro _ _ ⟨rfl, rfl⟩ | rintro _ _ ⟨g, rfl, rfl⟩ | rintro _ _ ⟨A', c', rfl, rfl⟩); (try refine ⟨SUB, ?_⟩)) | (refine GO2 ?_ ?_ <;> (refine Zs ?_; intro h; try exact Zx)) | refine GOF ?_ ?_ | fail)
        all_goals first | (exfalso; contradiction) | skip
        all_goals ((refine At_ret Tryz.results6 rfl (fun w' hw => ?_)); exact ⟨by simp [resVal], hw.below0 rfl⟩)
  · rw [decide_eq_false (show ¬ ∀ x ∈ [z, G], x = 0 by simpa using hk)] at hok
    clear hgo hop
    repeat' (first | ((first | with_reducible (first | apply TL_q | apply TD_q0 | apply TD_q1 | apply TD_q2 | apply TD_q3) | ((with_reducible (first | apply TD_q0y | apply TD_q1y)); exact rfl; exact rfl; (with_reducible exact rfl))); (first | ((with_reducible apply QS_load); exact rfl; exact Lds.own1 (enc := natEnc) Zm (by intro x; rfl) hkq rfl) | exact QS.auto); exact rfl) | refine GG ?_ | (refine GE ?_; (first | rintro _ _ ⟨rfl, rfl⟩ | rintro _ _ ⟨g, rfl, rfl⟩ | rintro _ _ ⟨A', c', rfl, rfl⟩); (try refine ⟨SUB, ?_⟩)) | (refine GO2 ?_ ?_ <;> (refine Zs ?_; intro h; try exact Zx)) | refine GOF ?_ ?_ | ((with_reducible (first | apply TD_e2z | apply TD_e3z | apply TL_e | apply TD_e2 | apply TD_e3)); ((with_reducible apply ES_callOwn (f := 12)); exact rfl; (intro w hw; exact hca w (hw.rd rfl hA) (hw.rd rfl hB)); exact rfl); (first | exact rfl | exact ⟨rfl, rfl, rfl⟩); (rintro _ _ ⟨A5, c5, rfl, rfl⟩); (try refine ⟨SUB, ?_⟩)) | ((with_reducible (first | apply TD_e2z | apply TD_e3z | apply TL_e | apply TD_e2 | apply TD_e3)); ((with_reducible apply ES_callV (f := 17)); exact rfl; (intro w hw; exact hah A5 c5 w (hw.ownRd (et := 36) Zm (fun _ => rfl))); exact rfl); (first | exact rfl | exact ⟨rfl, rfl, rfl⟩); (rintro _ _ ⟨rfl, rfl⟩); (try refine ⟨SUB, ?_⟩)) | ((with_reducible (first | apply TD_e2z | apply TD_e3z | apply TL_e | apply TD_e2 | apply TD_e3)); ((with_reducible apply ES_callV (f := 13)); exact rfl; (intro w hw; exact lives_any w (hT.carry (hw.below0 rfl))); exact rfl); (first | exact rfl | exact ⟨rfl, rfl, rfl⟩); (rintro _ _ ⟨rfl, rfl⟩); (try refine ⟨SUB, ?_⟩)) | ((with_reducible (first | apply TD_e2z | apply TD_e3z | apply TL_e | apply TD_e2 | apply TD_e3)); ((with_reducible apply ES_callV (f := 14)); exact rfl; (intro w hw; exact hok _ 2 w (RdInt.of_list (l := [z, G]) (hw.theBlk Zm))); exact rfl); (first | exact rfl | exact ⟨rfl, rfl, rfl⟩); (rintro _ _ ⟨rfl, rfl⟩); (try refine ⟨SUB, ?_⟩)) | fail)
    all_goals first | (exfalso; contradiction) | skip
    all_goals ((refine At_ret Tryz.results6 rfl (fun w' hw => ?_)); exact ⟨by simp [resVal], hw.below0 rfl⟩)
end
end Go.Proofs.YtjdckepbihcgfaaGreatDoor
