/- The law SeqQuiet: whatever is handed in, the law returns true. No condition. -/
import Derived.Test.YtiimjppceobkfaaG26
set_option linter.unusedSimpArgs false
set_option linter.unusedVariables false
set_option linter.unusedSectionVars false
set_option linter.unnecessarySimpa false
namespace Go.Proofs.Ytiimjppceobkfaa
open Go.RowKit

section
variable (A0 B0 : Option Addr) (c0 d0 : Nat) (ts : List Int) (l : List Ev) (w : World) (hts : ts.length ≤ 9223372036854775807) (hl : l.length ≤ 9223372036854775807) (hT : RdInt w A0 ts) (hA : RdEv w B0 l)
include hts hl hT hA
set_option maxRecDepth 100000 in
set_option maxHeartbeats 4000000 in
theorem seqQuiets_any : Calls Try.prog 9 #[.slice A0 ts.length c0, .slice B0 l.length d0] w fun e w' => e = .returned (.bool true) ∧ Below w.heap.size w w' := by
  have hri := fun w h1 h2 => seqCalm_any A0 B0 c0 d0 ts l w hts hl h1 h2
  have hfi := fun w h1 h2 => seqQuiet_any A0 B0 c0 d0 ts l w hts hl h1 h2
  have hse := fun w h1 h2 => searched_any A0 B0 c0 d0 ts l w hts hl h1 h2
  have hf := fewS_facts (ts := ts) (l := l)
  unfold findS at hfi
  generalize fewS ts l = F at *
  obtain ⟨cs, er⟩ := F
  dsimp only at hri hfi hse hf
  refine calls_T (S := []) [] Try.func9 rfl Try.ntmps9 (by simp) (Mem.nil _) ?_
  by_cases h0 : er = 0
  · subst h0
    have hs := hf rfl
    have h9 := hs.few
    have hR := relOk_calm hs
    have hfr : ∀ q (h : q < cs.length), 0 ≤ cs[q].from_ ∧ cs[q].from_ < 200 := fun q hq => (hs.cls.each q hq).place
    have hcr := fun A c w' h => calmRel_any A c cs w' h (by omega) hfr
    have hco := fun A c w' h => calmOf_any A c cs w' h (by omega) hfr
    have hlo := fun A c => least_all A0 A c0 c ts cs cs.length (relCalm cs) hs.types hs.calls h9 hR cs.length []
    have hfo : foundS ts cs (relCalm cs) = srchR ts cs (relCalm cs) cs.length [] := srch_CR hR _ closed_nil
    have hlen := fun r h => found_len (f := relCalm cs) hs.calls cs.length [] (path_nil hs.types) r h
    have hfo' : srchC ts cs (relCalm cs) cs.length [] = srchR ts cs (relCalm cs) cs.length [] := hfo
    rw [hfo'] at hlen
    have hgood := good_nil (cs := cs) (f := relCalm cs) hs.types
    have hLl := calmL_len cs
    simp only [if_true, hfo] at hri hfi
    generalize calmL cs = L at *
    have heq1 := fun A B c d w' h1 h2 => equal_any A B c d L L w' (by omega) (by omega) h1 h2
    rw [decide_eq_true rfl] at heq1
    generalize srchR ts cs (relCalm cs) cs.length [] = o at *
    repeat' (first | ((first | with_reducible (first | apply TL_q | apply TD_q0 | apply TD_q1 | apply TD_q2 | apply TD_q3) | ((with_reducible (first | apply TD_q0y | apply TD_q1y)); exact rfl; exact rfl; (with_reducible exact rfl))); (first | exact QS.auto | ((with_reducible apply QS_neqNil); exact rfl; exact rfl) | ((with_reducible apply QS_eqlB); exact rfl; exact rfl) | ((with_reducible apply QS_neqB); exact rfl; exact rfl)); exact rfl) | (refine GO ?_) | (refine GOE ?_; (first | (rintro _ _ ⟨rfl, rfl⟩) | (rintro _ _ ⟨g, rfl, rfl⟩) | (rintro _ _ ⟨A', c', rfl, rfl⟩))) | ((refine GO2 ?_ ?_) <;> intro h <;> (try (repeat (first | with_reducible (replace h := of_decide_eq_true h) | with_reducible (replace h := of_decide_eq_false h) | with_reducible (replace h := bnt h) | with_reducible (replace h := bnf h) | with_reducible (replace h := Int.not_lt.mp h) | with_reducible (replace h := Int.not_le.mp h) | with_reducible (replace h := band_dec h) | with_reducible (replace h := band_decF h) | with_reducible (replace h := bor_dec h) | with_reducible (replace h := bor_decF h)))) <;> (try (exfalso; first | contradiction | omega))) | ((with_reducible (first | apply TD_e2z | apply TD_e3z | apply TL_e | apply TD_e2 | apply TD_e3)); ((with_reducible apply ES_callOwn (f := 43)); exact rfl; (intro w hw; exact hri w (hw.rd rfl hT) (hw.rd rfl hA)); exact rfl); (first | exact rfl | exact ⟨rfl, rfl, rfl⟩); (rintro _ _ ⟨A7, c7, rfl, rfl⟩); (try refine ⟨SUB, ?_⟩)) | ((with_reducible (first | apply TD_e2z | apply TD_e3z | apply TL_e | apply TD_e2 | apply TD_e3)); ((with_reducible apply ES_callOwn (f := 44)); exact rfl; (intro w hw; exact hfi w (hw.rd rfl hT) (hw.rd rfl hA)); exact rfl); (first | exact rfl | exact ⟨rfl, rfl, rfl⟩); (rintro _ _ ⟨A1, c1, rfl, rfl⟩); (try refine ⟨SUB, ?_⟩)) | ((with_reducible (first | apply TD_e2z | apply TD_e3z | apply TL_e | apply TD_e2 | apply TD_e3)); ((with_reducible apply ES_callOwn (f := 45)); exact rfl; (intro w hw; exact hse w (hw.rd rfl hT) (hw.rd rfl hA)); exact rfl); (first | exact rfl | exact ⟨rfl, rfl, rfl⟩); (rintro _ _ ⟨A2, c2, rfl, rfl⟩); (try refine ⟨SUB, ?_⟩)) | ((with_reducible (first | apply TD_e2z | apply TD_e3z | apply TL_e | apply TD_e2 | apply TD_e3)); ((with_reducible apply ES_callV (f := 47)); exact rfl; (intro w hw; exact hcr _ _ w (hw.ownRd (by first | ((repeat (first | with_reducible exact List.mem_cons_self | with_reducible apply List.mem_cons_of_mem)); done) | (repeat (first | exact List.Mem.head _ | apply List.Mem.tail))) (fun _ => rfl))); exact rfl); (first | exact rfl | exact ⟨rfl, rfl, rfl⟩); (rintro _ _ ⟨rfl, rfl⟩); (try refine ⟨SUB, ?_⟩)) | ((with_reducible (first | apply TD_e2z | apply TD_e3z | apply TL_e | apply TD_e2 | apply TD_e3)); ((with_reducible apply ES_buildSlice0 Stp.enc); exact rfl); (first | exact rfl | exact ⟨rfl, rfl, rfl⟩); (rintro _ _ ⟨g, rfl, rfl⟩); (try refine ⟨SUB, ?_⟩)) | fail)
    obtain ⟨gN, rfl⟩ : ∃ x, x = g := ⟨_, rfl⟩
    have hih := fun (C : Ctx) (R' : List Ent) (w' : World) (hw : Mem C w' ([entOwn Stp.enc 2 72 (some ⟨gN, 0, none⟩) 0 []] ++ R')) (h1 : RdInt w' A0 ts) (h2 : RdCl w' A2 cs) (h3 : Away A0 (blks [entOwn Stp.enc 2 72 (some ⟨gN, 0, none⟩) 0 []])) (h4 : 0 < cs.length → Away A2 (blks [entOwn Stp.enc 2 72 (some ⟨gN, 0, none⟩) 0 []])) =>
      hlo A2 c2 (some ⟨gN, 0, none⟩) 0 w' 0 hgood (by simp [maskW, unset_0]) h1 h2 (fun e => by cases e) h3 h4 (hw.self 0)
    have hawT : ∀ (C : Ctx) (R' : List Ent) (w' : World), C.F = [] → C.w0 = w → Mem C w' ([entOwn Stp.enc 2 72 (some ⟨gN, 0, none⟩) 0 []] ++ R') → Away A0 (blks [entOwn Stp.enc 2 72 (some ⟨gN, 0, none⟩) 0 []]) := fun C R' w' e1 e2 hw b o e => by
      subst e2
      have ht1 : 1 ≤ ts.length := by have := hs.types; unfold typesOk at this; rw [Bool.and_eq_true, decide_eq_true_eq] at this; exact this.1.1
      obtain ⟨b', o', e', hb'⟩ := RdE.open hT (by omega)
      rw [e] at e'; cases e'
      exact hw.newBlk e1 hb'
    have hawB : ∀ (C : Ctx) (R' : List Ent) (w' : World), Mem C w' ([entOwn Stp.enc 2 72 (some ⟨gN, 0, none⟩) 0 []] ++ R') → entOwn Cl.enc 7 76 A2 c2 cs ∈ R' → Away A2 (blks [entOwn Stp.enc 2 72 (some ⟨gN, 0, none⟩) 0 []]) := fun C R' w' hw hm b o e hb => by
      obtain ⟨e1, he1, hg⟩ := mem_blks.1 hb
      refine (List.pairwise_append.1 hw.apart).2.2 e1 he1 _ hm b hg ?_
      show (Value.slice A2 cs.length c2).ownBlock = some b
      rw [e]; rfl
    cases o with
    | some r =>
      have hr9 : r.length ≤ 9 := by have := (hlen r rfl).len; omega
      have heq := fun A B c d w' h1 h2 => equalStp_any A B c d r r w' (by omega) (by omega) h1 h2
      rw [decide_eq_true rfl] at heq
      repeat' (first | ((first | with_reducible (first | apply TL_q | apply TD_q0 | apply TD_q1 | apply TD_q2 | apply TD_q3) | ((with_reducible (first | apply TD_q0y | apply TD_q1y)); exact rfl; exact rfl; (with_reducible exact rfl))); (first | exact QS.auto | ((with_reducible apply QS_neqNil); exact rfl; exact rfl) | ((with_reducible apply QS_eqlB); exact rfl; exact rfl) | ((with_reducible apply QS_neqB); exact rfl; exact rfl)); exact rfl) | (refine GO ?_) | (refine GOE ?_; (first | (rintro _ _ ⟨rfl, rfl⟩) | (rintro _ _ ⟨g, rfl, rfl⟩) | (rintro _ _ ⟨A', c', rfl, rfl⟩))) | ((refine GO2 ?_ ?_) <;> intro h <;> (try (repeat (first | with_reducible (replace h := of_decide_eq_true h) | with_reducible (replace h := of_decide_eq_false h) | with_reducible (replace h := bnt h) | with_reducible (replace h := bnf h) | with_reducible (replace h := Int.not_lt.mp h) | with_reducible (replace h := Int.not_le.mp h) | with_reducible (replace h := band_dec h) | with_reducible (replace h := band_decF h) | with_reducible (replace h := bor_dec h) | with_reducible (replace h := bor_decF h)))) <;> (try (exfalso; first | contradiction | omega))) | ((with_reducible (first | apply TD_e2z | apply TD_e3z | apply TL_e | apply TD_e2 | apply TD_e3)); ((with_reducible apply ES_callX (f := 46) (X := Addr × Nat) (S1 := [entOwn Stp.enc 2 72 (some ⟨gN, 0, none⟩) 0 []]) (outV (some r)) (outS (some r))); exact rfl; ((repeat (first | exact Pull.nil _ | (apply Pull.cons; (repeat (first | with_reducible exact Pick.here _ _ | with_reducible apply Pick.there)))))); (intro x; dsimp only [outS]; repeat (first | exact AppL.nil _ | apply AppL.cons)); (intro w' hw; exact hih _ _ w' hw (hw.rd rfl hT) (hw.ownRd (et := 76) (c := c2) (by first | ((repeat (first | with_reducible exact List.mem_cons_self | with_reducible apply List.mem_cons_of_mem)); done) | (repeat (first | exact List.Mem.head _ | apply List.Mem.tail))) (fun _ => rfl)) (hawT _ _ w' rfl rfl hw) (fun _ => hawB _ _ w' hw (by first | ((repeat (first | with_reducible exact List.mem_cons_self | with_reducible apply List.mem_cons_of_mem)); done) | (repeat (first | exact List.Mem.head _ | apply List.Mem.tail))))); exact rfl); (first | exact rfl | exact ⟨rfl, rfl, rfl⟩); (rintro _ _ ⟨⟨a9, c9⟩, rfl, rfl⟩); (try refine ⟨SUB, ?_⟩)) | ((with_reducible (first | apply TD_e2z | apply TD_e3z | apply TL_e | apply TD_e2 | apply TD_e3)); ((with_reducible apply ES_callOwn (f := 49)); exact rfl; (intro w hw; exact hco _ _ w (hw.ownRd (et := 76) (c := c2) (by first | ((repeat (first | with_reducible exact List.mem_cons_self | with_reducible apply List.mem_cons_of_mem)); done) | (repeat (first | exact List.Mem.head _ | apply List.Mem.tail))) (fun _ => rfl))); exact rfl); (first | exact rfl | exact ⟨rfl, rfl, rfl⟩); (rintro _ _ ⟨A8, c8, rfl, rfl⟩); (try refine ⟨SUB, ?_⟩)) | ((with_reducible (first | apply TD_e2z | apply TD_e3z | apply TL_e | apply TD_e2 | apply TD_e3)); ((with_reducible apply ES_callV (f := 48)); exact rfl; (intro w hw; exact heq1 _ _ _ _ w (hw.ownRd (et := 3) (c := c7) (by first | ((repeat (first | with_reducible exact List.mem_cons_self | with_reducible apply List.mem_cons_of_mem)); done) | (repeat (first | exact List.Mem.head _ | apply List.Mem.tail))) (fun _ => rfl)) (hw.ownRd (et := 3) (c := c8) (by first | ((repeat (first | with_reducible exact List.mem_cons_self | with_reducible apply List.mem_cons_of_mem)); done) | (repeat (first | exact List.Mem.head _ | apply List.Mem.tail))) (fun _ => rfl))); exact rfl); (first | exact rfl | exact ⟨rfl, rfl, rfl⟩); (rintro _ _ ⟨rfl, rfl⟩); (try refine ⟨SUB, ?_⟩)) | ((with_reducible (first | apply TD_e2z | apply TD_e3z | apply TL_e | apply TD_e2 | apply TD_e3)); ((with_reducible apply ES_callV (f := 35)); exact rfl; (intro w hw; exact heq _ _ _ _ w (hw.ownRd (et := 72) (c := c1) (by first | ((repeat (first | with_reducible exact List.mem_cons_self | with_reducible apply List.mem_cons_of_mem)); done) | (repeat (first | exact List.Mem.head _ | apply List.Mem.tail))) (fun _ => rfl)) (hw.ownRd (et := 72) (c := c9) (by first | ((repeat (first | with_reducible exact List.mem_cons_self | with_reducible apply List.mem_cons_of_mem)); done) | (repeat (first | exact List.Mem.head _ | apply List.Mem.tail))) (fun _ => rfl))); exact rfl); (first | exact rfl | exact ⟨rfl, rfl, rfl⟩); (rintro _ _ ⟨rfl, rfl⟩); (try refine ⟨SUB, ?_⟩)) | fail)
      all_goals
        (refine At_ret Try.results9 rfl (fun w' hw => ?_))
        exact ⟨by simp [resVal], hw.below0 rfl⟩
    | none =>
      have heq := fun A B c d w' h1 h2 => equalStp_any A B c d [] [] w' (by simp) (by simp) h1 h2
      rw [decide_eq_true rfl] at heq
      repeat' (first | ((first | with_reducible (first | apply TL_q | apply TD_q0 | apply TD_q1 | apply TD_q2 | apply TD_q3) | ((with_reducible (first | apply TD_q0y | apply TD_q1y)); exact rfl; exact rfl; (with_reducible exact rfl))); (first | exact QS.auto | ((with_reducible apply QS_neqNil); exact rfl; exact rfl) | ((with_reducible apply QS_eqlB); exact rfl; exact rfl) | ((with_reducible apply QS_neqB); exact rfl; exact rfl)); exact rfl) | (refine GO ?_) | (refine GOE ?_; (first | (rintro _ _ ⟨rfl, rfl⟩) | (rintro _ _ ⟨g, rfl, rfl⟩) | (rintro _ _ ⟨A', c', rfl, rfl⟩))) | ((refine GO2 ?_ ?_) <;> intro h <;> (try (repeat (first | with_reducible (replace h := of_decide_eq_true h) | with_reducible (replace h := of_decide_eq_false h) | with_reducible (replace h := bnt h) | with_reducible (replace h := bnf h) | with_reducible (replace h := Int.not_lt.mp h) | with_reducible (replace h := Int.not_le.mp h) | with_reducible (replace h := band_dec h) | with_reducible (replace h := band_decF h) | with_reducible (replace h := bor_dec h) | with_reducible (replace h := bor_decF h)))) <;> (try (exfalso; first | contradiction | omega))) | ((with_reducible (first | apply TD_e2z | apply TD_e3z | apply TL_e | apply TD_e2 | apply TD_e3)); ((with_reducible apply ES_callX (f := 46) (X := Addr × Nat) (S1 := [entOwn Stp.enc 2 72 (some ⟨gN, 0, none⟩) 0 []]) (outV none) (outS none)); exact rfl; ((repeat (first | exact Pull.nil _ | (apply Pull.cons; (repeat (first | with_reducible exact Pick.here _ _ | with_reducible apply Pick.there)))))); (intro x; dsimp only [outS]; repeat (first | exact AppL.nil _ | apply AppL.cons)); (intro w' hw; exact hih _ _ w' hw (hw.rd rfl hT) (hw.ownRd (et := 76) (c := c2) (by first | ((repeat (first | with_reducible exact List.mem_cons_self | with_reducible apply List.mem_cons_of_mem)); done) | (repeat (first | exact List.Mem.head _ | apply List.Mem.tail))) (fun _ => rfl)) (hawT _ _ w' rfl rfl hw) (fun _ => hawB _ _ w' hw (by first | ((repeat (first | with_reducible exact List.mem_cons_self | with_reducible apply List.mem_cons_of_mem)); done) | (repeat (first | exact List.Mem.head _ | apply List.Mem.tail))))); exact rfl); (first | exact rfl | exact ⟨rfl, rfl, rfl⟩); (rintro _ _ ⟨⟨a9, c9⟩, rfl, rfl⟩); (try refine ⟨SUB, ?_⟩)) | ((with_reducible (first | apply TD_e2z | apply TD_e3z | apply TL_e | apply TD_e2 | apply TD_e3)); ((with_reducible apply ES_callOwn (f := 49)); exact rfl; (intro w hw; exact hco _ _ w (hw.ownRd (et := 76) (c := c2) (by first | ((repeat (first | with_reducible exact List.mem_cons_self | with_reducible apply List.mem_cons_of_mem)); done) | (repeat (first | exact List.Mem.head _ | apply List.Mem.tail))) (fun _ => rfl))); exact rfl); (first | exact rfl | exact ⟨rfl, rfl, rfl⟩); (rintro _ _ ⟨A8, c8, rfl, rfl⟩); (try refine ⟨SUB, ?_⟩)) | ((with_reducible (first | apply TD_e2z | apply TD_e3z | apply TL_e | apply TD_e2 | apply TD_e3)); ((with_reducible apply ES_callV (f := 48)); exact rfl; (intro w hw; exact heq1 _ _ _ _ w (hw.ownRd (et := 3) (c := c7) (by first | ((repeat (first | with_reducible exact List.mem_cons_self | with_reducible apply List.mem_cons_of_mem)); done) | (repeat (first | exact List.Mem.head _ | apply List.Mem.tail))) (fun _ => rfl)) (hw.ownRd (et := 3) (c := c8) (by first | ((repeat (first | with_reducible exact List.mem_cons_self | with_reducible apply List.mem_cons_of_mem)); done) | (repeat (first | exact List.Mem.head _ | apply List.Mem.tail))) (fun _ => rfl))); exact rfl); (first | exact rfl | exact ⟨rfl, rfl, rfl⟩); (rintro _ _ ⟨rfl, rfl⟩); (try refine ⟨SUB, ?_⟩)) | ((with_reducible (first | apply TD_e2z | apply TD_e3z | apply TL_e | apply TD_e2 | apply TD_e3)); ((with_reducible apply ES_callV (f := 35)); exact rfl; (intro w hw; exact heq _ _ _ _ w (RdE.nil _) (RdE.nil _)); exact rfl); (first | exact rfl | exact ⟨rfl, rfl, rfl⟩); (rintro _ _ ⟨rfl, rfl⟩); (try refine ⟨SUB, ?_⟩)) | fail)
      all_goals
        (refine At_ret Try.results9 rfl (fun w' hw => ?_))
        exact ⟨by simp [resVal], hw.below0 rfl⟩
  · have hz : ¬ er = 0 := h0
    simp only [if_neg h0] at hri hfi
    repeat' (first | ((first | with_reducible (first | apply TL_q | apply TD_q0 | apply TD_q1 | apply TD_q2 | apply TD_q3) | ((with_reducible (first | apply TD_q0y | apply TD_q1y)); exact rfl; exact rfl; (with_reducible exact rfl))); (first | exact QS.auto | ((with_reducible apply QS_neqNil); exact rfl; exact rfl) | ((with_reducible apply QS_eqlB); exact rfl; exact rfl) | ((with_reducible apply QS_neqB); exact rfl; exact rfl)); exact rfl) | (refine GO ?_) | (refine GOE ?_; (first | (rintro _ _ ⟨rfl, rfl⟩) | (rintro _ _ ⟨g, rfl, rfl⟩) | (rintro _ _ ⟨A', c', rfl, rfl⟩))) | ((refine GO2 ?_ ?_) <;> intro h <;> (try (repeat (first | with_reducible (replace h := of_decide_eq_true h) | with_reducible (replace h := of_decide_eq_false h) | with_reducible (replace h := bnt h) | with_reducible (replace h := bnf h) | with_reducible (replace h := Int.not_lt.mp h) | with_reducible (replace h := Int.not_le.mp h) | with_reducible (replace h := band_dec h) | with_reducible (replace h := band_decF h) | with_reducible (replace h := bor_dec h) | with_reducible (replace h := bor_decF h)))) <;> (try (exfalso; first | contradiction | omega))) | ((with_reducible (first | apply TD_e2z | apply TD_e3z | apply TL_e | apply TD_e2 | apply TD_e3)); ((with_reducible apply ES_callOwn (f := 43)); exact rfl; (intro w hw; exact hri w (hw.rd rfl hT) (hw.rd rfl hA)); exact rfl); (first | exact rfl | exact ⟨rfl, rfl, rfl⟩); (rintro _ _ ⟨A7, c7, rfl, rfl⟩); (try refine ⟨SUB, ?_⟩)) | ((with_reducible (first | apply TD_e2z | apply TD_e3z | apply TL_e | apply TD_e2 | apply TD_e3)); ((with_reducible apply ES_callOwn (f := 44)); exact rfl; (intro w hw; exact hfi w (hw.rd rfl hT) (hw.rd rfl hA)); exact rfl); (first | exact rfl | exact ⟨rfl, rfl, rfl⟩); (rintro _ _ ⟨A1, c1, rfl, rfl⟩); (try refine ⟨SUB, ?_⟩)) | ((with_reducible (first | apply TD_e2z | apply TD_e3z | apply TL_e | apply TD_e2 | apply TD_e3)); ((with_reducible apply ES_callOwn (f := 45)); exact rfl; (intro w hw; exact hse w (hw.rd rfl hT) (hw.rd rfl hA)); exact rfl); (first | exact rfl | exact ⟨rfl, rfl, rfl⟩); (rintro _ _ ⟨A2, c2, rfl, rfl⟩); (try refine ⟨SUB, ?_⟩)) | fail)
    (refine At_ret Try.results9 rfl (fun w' hw => ?_))
    exact ⟨by simp [resVal], hw.below0 rfl⟩
end

open Go.ChangeShapes Go.WideShapes Go.ChangeAt Go.Deep in
set_option maxRecDepth 100000 in
theorem seqQuiet_contract (H : Type) (enc : TypeId × Value → H) (W : World) (base : Nat) (args : Array Value) (ds gs : List (DataW H)) (before : List MemPlace)
    (hval : ∀ (j : Nat) t v, Try.f9.params[j]? = some t → args[j]? = some v → Value.okWide Try.prog W .any base t v)
    (hW : DataW.Whole enc Try.prog Try.f9.params.toList Rows.seqQuietSpec.vars false W args.toList ds gs before) :
    Calls Try.prog 9 args W fun e W' => ∃ v, e = .returned v ∧ Rows.seqQuietSpec.post enc Try.prog Try.f9 false true false false W args v W' := by
  have hW' := hW
  obtain ⟨p, q, hA, -, -, -, -⟩ := hW
  rw [Try.params9] at hA hval
  obtain ⟨v0, vs0, d0, ds0, p0, q0, hargs0, rfl, rfl, h0, r0⟩ := trodAll_cons hA
  obtain ⟨v1, vs1, d1, ds1, p1, q1, hargs1, rfl, rfl, h1, r1⟩ := trodAll_cons r0
  obtain ⟨rfl, rfl, rfl⟩ := trodAll_nil r1
  obtain rfl : args = #[v0, v1] := by cases args; simp_all
  obtain ⟨A, n, c, rfl⟩ := okWide_slice Try.underlying22 (hval 0 _ _ rfl rfl)
  obtain ⟨B, m, d, rfl⟩ := okWide_slice Try.underlying35 (hval 1 _ _ rfl rfl)
  obtain ⟨fuel, hf⟩ := h0
  obtain ⟨fuel1, hf1⟩ := h1
  obtain ⟨A', len, cap, Z, hcs, hlen, hlc, hZ⟩ := open_int_list Try.underlying22 Try.underlying3 (by kernel_rfl) hf
  have hcs' : A = A' ∧ n = len ∧ c = cap := by simpa [Value.cells] using hcs
  obtain ⟨rfl, rfl, rfl⟩ := hcs'
  obtain ⟨B', len1, cap1, Z1, hcs1, hlen1, hlc1, hZ1⟩ := open_int_rows Try.underlying35 Try.underlying45 (by kernel_rfl) (by kernel_rfl) Try.underlying3 (by kernel_rfl) hf1
  have hcs1' : B = B' ∧ m = len1 ∧ d = cap1 := by simpa [Value.cells] using hcs1
  obtain ⟨rfl, rfl, rfl⟩ := hcs1'
  have hl : ((List.range n).map fun i => Z i 0).length = n := by simp
  have hl1 : ((List.range m).map fun i => (⟨Z1 i 0, Z1 i 1, Z1 i 2, Z1 i 3⟩ : Ev)).length = m := by simp
  have hR : RdInt W A ((List.range n).map fun i => Z i 0) := rdE_of_list hZ
  have hR1 : RdEv W B ((List.range m).map fun i => (⟨Z1 i 0, Z1 i 1, Z1 i 2, Z1 i 3⟩ : Ev)) :=
    rdE_of_rows (fun z => (⟨z 0, z 1, z 2, z 3⟩ : Ev)) Ev.enc (by decide) (fun z j v hv => by
      match j, hv with
      | 0, hv => exact ⟨by decide, by simpa [Ev.enc] using hv.symm⟩
      | 1, hv => exact ⟨by decide, by simpa [Ev.enc] using hv.symm⟩
      | 2, hv => exact ⟨by decide, by simpa [Ev.enc] using hv.symm⟩
      | 3, hv => exact ⟨by decide, by simpa [Ev.enc] using hv.symm⟩
      | j + 4, hv => simp [Ev.enc] at hv) hZ1
  unfold maxLen at hlen hlen1
  have hcall : Calls Try.prog 9 #[.slice A n c, .slice B m d] W fun e W' => e = .returned (.bool true) ∧ Below W.heap.size W W' := by
    generalize ((List.range n).map fun i => Z i 0) = ts at *
    generalize ((List.range m).map fun i => (⟨Z1 i 0, Z1 i 1, Z1 i 2, Z1 i 3⟩ : Ev)) = l at *
    subst hl hl1
    exact seqQuiets_any A B c d ts l W (by omega) (by omega) hR hR1
  refine hcall.mono fun e W' ⟨he, hb⟩ => ⟨_, he, ?_⟩
  exact law_post laidOut (by kernel_rfl) rfl rfl Try.underlying4 hW' (fun _ => by subst_vars; rfl) hb

open Go.ChangeShapes Go.WideShapes Go.ChangeAt Go.Deep in
set_option maxRecDepth 100000 in
theorem seqQuiet_lifted (os : Os) (started : os.Started) (H : Type) (enc : TypeId × Value → H) :
    ReturnsInHanded {} Try.checked os 9 .any (Rows.seqQuietSpec.pre6 enc Try.prog Try.f9 Rows.seqQuietRow.domain false) (Rows.seqQuietSpec.post enc Try.prog Try.f9 false true false false) := by
  refine returnsInHanded_of_change (C := Try.checked) own started (by kernel_rfl) Try.func9
    (ChangeSpec.witness6 (enc := enc) (C := Try.checked) false ⟨#[], #[.slice none 0 0, .slice none 0 0], []⟩ 8 (by kernel_rfl) (by kernel_rfl) (by kernel_rfl) (by kernel_rfl)) ?_
  intro W base args ds gs before hval hW _ _
  exact seqQuiet_contract H enc W base args ds gs before hval hW
theorem seqQuiet_holds : Rows.SeqQuietSaid :=
  OpenClaim.holds_of_wide 9 Try.f9 rfl rfl rfl rfl rfl rfl rfl ⟨rfl, rfl, rfl, rfl, rfl⟩ rfl rfl rfl rfl rfl (by kernel_rfl) Try.func9 (by kernel_rfl)
    (of_decide_eq_true (by kernel_rfl)) (by unfold Func.isWrapper; first | (rw [if_pos (by decide +kernel)]; kernel_rfl) | (rw [if_neg (by decide +kernel)]; exact ⟨rfl, rfl⟩))
    (fun os started H enc _ => seqQuiet_lifted os started H enc)
#print axioms seqQuiet_holds
end Go.Proofs.Ytiimjppceobkfaa
