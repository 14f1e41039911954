/- The law CausalSays: whatever is handed in, the law returns true. No condition. -/
import Derived.Test.YtppicbdaijiifaaCau8
import Derived.Test.YtppicbdaijiifaaCau7
import Derived.Test.YtppicbdaijiifaaRel
import Derived.Test.YtppicbdaijiifaaLaw
namespace Go.Proofs.Ytppicbdaijiifaa
open Go.RowKit

section
variable {C : Ctx} {E : Slots} {S : List Ent} {ty ty3 : Nat} {x y : Operand} (n : Int) (f : Nat → Nat)
theorem QS_eqlRel (hx : evo E x = some (.agg (relCells n f))) (hy : evo E y = some (.agg (relCells n f))) : QS Try.prog C E S (.binOp .eql 42 x y ty3) ty (.bool true) :=
  QS.of (fun a w ha _ => by
    have h2 := run_eql_rel n n f f w
    rw [relEq_same f f (fun _ _ => rfl)] at h2
    have hg := run_eqGuard_rel .eql x y (relCells n f) (relCells n f) w
    simp only [execOp, ha.evo hx, ha.evo hy, Sem.run_bind, hg, Result.andThen_ok, h2]
    simp)
end
theorem progF_irr (cs : List Cl) : ∀ k, k < cs.length → (relProg cs k).testBit k = false := by
  intro k hk
  rw [relProg, relN_bit, progP, decide_eq_false (Nat.lt_irrefl k)]; simp
theorem noCyc {n : Nat} {f : Nat → Nat} (h : isCyc n f = false) : ∀ k, k < n → (f k).testBit k = false := by
  intro k hk
  rw [Bool.eq_false_iff]; intro e
  rw [isCyc_at hk e] at h; cases h
section
variable (A0 B0 : Option Addr) (c0 d0 : Nat) (ts : List Int) (l : List Ev) (w : World) (hts : ts.length ≤ 9223372036854775807) (hl : l.length ≤ 9223372036854775807) (hT : RdInt w A0 ts) (hA : RdEv w B0 l)
include hts hl hT hA
set_option maxRecDepth 100000 in
set_option maxHeartbeats 1000000 in
theorem causalSays_bad (e : Int) (he : fewR ts l = ([], e)) (hn : ¬ e = 0) : Calls Try.prog 8 #[.slice A0 ts.length c0, .slice B0 l.length d0] w fun x w' => x = .returned (.bool true) ∧ Below w.heap.size w w' := by
  have h1 := fun w h1 h2 => causes_bad A0 B0 c0 d0 ts l w hts hl h1 h2 e he hn
  have h2 := fun w h1 h2 => causalAll_bad A0 B0 c0 d0 ts l w hts hl h1 h2 e he hn
  have h3 := fun w h1 h2 => fewCalls_any A0 B0 c0 d0 ts l w hts hl h1 h2
  rw [he] at h3
  clear he
  refine calls_T (S := []) [] Try.func8 rfl Try.ntmps8 (by simp) (Mem.nil _) ?_
  repeat' (first
    | first | with_reducible apply T_seq | with_reducible apply T_region | with_reducible apply TL_nil | with_reducible apply At_then | with_reducible apply T_block | with_reducible apply At_block | with_reducible apply T_skip | with_reducible apply T_exit | with_reducible apply At_then_exit | with_reducible apply At_block_exit | ((with_reducible apply At_block_past); exact rfl) | with_reducible apply T_ret | with_reducible apply At_then_ret | with_reducible apply At_block_ret | with_reducible apply TD_nil | with_reducible apply TD_fork | ((with_reducible apply TL_q); exact QS.auto; exact rfl) | ((with_reducible apply TL_e); exact ES.auto; exact rfl; (first | (rintro _ _ ⟨rfl, rfl⟩) | (rintro _ _ ⟨g, rfl, rfl⟩) | (rintro _ _ ⟨A', c', rfl, rfl⟩))) | (first | ((with_reducible apply TL_yes); exact rfl; exact rfl; (with_reducible exact rfl)) | ((with_reducible apply TL_no); exact rfl; exact rfl; (first | with_reducible exact Bool.not_true.symm | with_reducible exact Bool.not_false.symm); exact rfl) | ((with_reducible apply TL_no_undef); exact rfl; exact rfl; exact rfl) | (((with_reducible apply TL_guard); exact rfl; exact rfl; (fail_if_success (with_reducible refine imp_lit1 ?_)); (fail_if_success (with_reducible refine imp_lit0))) <;> intro h <;> (try (repeat (first | with_reducible (replace h := of_decide_eq_true h) | with_reducible (replace h := of_decide_eq_false h) | with_reducible (replace h := bnt h) | with_reducible (replace h := bnf h) | with_reducible (replace h := Int.not_lt.mp h) | with_reducible (replace h := Int.not_le.mp h) | with_reducible (replace h := band_dec h) | with_reducible (replace h := band_decF h) | with_reducible (replace h := bor_dec h) | with_reducible (replace h := bor_decF h)))) <;> (try (exfalso; first | contradiction | omega))) | (((with_reducible apply TD_guard); exact rfl; exact rfl; (fail_if_success (with_reducible refine imp_lit1 ?_)); (fail_if_success (with_reducible refine imp_lit0))) <;> intro h <;> (try (repeat (first | with_reducible (replace h := of_decide_eq_true h) | with_reducible (replace h := of_decide_eq_false h) | with_reducible (replace h := bnt h) | with_reducible (replace h := bnf h) | with_reducible (replace h := Int.not_lt.mp h) | with_reducible (replace h := Int.not_le.mp h) | with_reducible (replace h := band_dec h) | with_reducible (replace h := band_decF h) | with_reducible (replace h := bor_dec h) | with_reducible (replace h := bor_decF h)))) <;> (try (exfalso; first | contradiction | omega)))) | (((with_reducible apply T_cond); exact rfl) <;> intro h <;> (try (repeat (first | with_reducible (replace h := of_decide_eq_true h) | with_reducible (replace h := of_decide_eq_false h) | with_reducible (replace h := bnt h) | with_reducible (replace h := bnf h) | with_reducible (replace h := Int.not_lt.mp h) | with_reducible (replace h := Int.not_le.mp h) | with_reducible (replace h := band_dec h) | with_reducible (replace h := band_decF h) | with_reducible (replace h := bor_dec h) | with_reducible (replace h := bor_decF h)))) <;> (try (exfalso; first | contradiction | omega))) | first | ((with_reducible apply TL_e); ((with_reducible apply ES_callV (f := 47)); exact rfl; (intro w hw; exact h1 w (hw.rd rfl hT) (hw.rd rfl hA)); exact rfl); exact rfl; (rintro _ _ ⟨rfl, rfl⟩)) | ((with_reducible apply TD_e2); ((with_reducible apply ES_callV (f := 47)); exact rfl; (intro w hw; exact h1 w (hw.rd rfl hT) (hw.rd rfl hA)); exact rfl); exact rfl; (rintro _ _ ⟨rfl, rfl⟩); refine ⟨by (repeat (first | with_reducible exact List.nil_sublist _ | with_reducible exact List.Sublist.refl _ | with_reducible apply List.Sublist.cons_cons | with_reducible apply List.Sublist.cons)), ?_⟩) | ((with_reducible apply TD_e3); ((with_reducible apply ES_callV (f := 47)); exact rfl; (intro w hw; exact h1 w (hw.rd rfl hT) (hw.rd rfl hA)); exact rfl); exact rfl; (rintro _ _ ⟨rfl, rfl⟩)) | ((with_reducible apply TD_e2y); exact rfl; exact rfl; (with_reducible exact rfl); ((with_reducible apply ES_callV (f := 47)); exact rfl; (intro w hw; exact h1 w (hw.rd rfl hT) (hw.rd rfl hA)); exact rfl); (rintro _ _ ⟨rfl, rfl⟩); refine ⟨by (repeat (first | with_reducible exact List.nil_sublist _ | with_reducible exact List.Sublist.refl _ | with_reducible apply List.Sublist.cons_cons | with_reducible apply List.Sublist.cons)), ?_⟩) | ((with_reducible apply TD_e3y); exact rfl; exact rfl; (with_reducible exact rfl); ((with_reducible apply ES_callV (f := 47)); exact rfl; (intro w hw; exact h1 w (hw.rd rfl hT) (hw.rd rfl hA)); exact rfl); (rintro _ _ ⟨rfl, rfl⟩)) | first | ((with_reducible apply TL_e); ((with_reducible apply ES_callV (f := 48)); exact rfl; (intro w hw; exact h2 w (hw.rd rfl hT) (hw.rd rfl hA)); exact rfl); exact rfl; (rintro _ _ ⟨rfl, rfl⟩)) | ((with_reducible apply TD_e2); ((with_reducible apply ES_callV (f := 48)); exact rfl; (intro w hw; exact h2 w (hw.rd rfl hT) (hw.rd rfl hA)); exact rfl); exact rfl; (rintro _ _ ⟨rfl, rfl⟩); refine ⟨by (repeat (first | with_reducible exact List.nil_sublist _ | with_reducible exact List.Sublist.refl _ | with_reducible apply List.Sublist.cons_cons | with_reducible apply List.Sublist.cons)), ?_⟩) | ((with_reducible apply TD_e3); ((with_reducible apply ES_callV (f := 48)); exact rfl; (intro w hw; exact h2 w (hw.rd rfl hT) (hw.rd rfl hA)); exact rfl); exact rfl; (rintro _ _ ⟨rfl, rfl⟩)) | ((with_reducible apply TD_e2y); exact rfl; exact rfl; (with_reducible exact rfl); ((with_reducible apply ES_callV (f := 48)); exact rfl; (intro w hw; exact h2 w (hw.rd rfl hT) (hw.rd rfl hA)); exact rfl); (rintro _ _ ⟨rfl, rfl⟩); refine ⟨by (repeat (first | with_reducible exact List.nil_sublist _ | with_reducible exact List.Sublist.refl _ | with_reducible apply List.Sublist.cons_cons | with_reducible apply List.Sublist.cons)), ?_⟩) | ((with_reducible apply TD_e3y); exact rfl; exact rfl; (with_reducible exact rfl); ((with_reducible apply ES_callV (f := 48)); exact rfl; (intro w hw; exact h2 w (hw.rd rfl hT) (hw.rd rfl hA)); exact rfl); (rintro _ _ ⟨rfl, rfl⟩))
    | first | ((with_reducible apply TL_e); ((with_reducible apply ES_callOwn (f := 49)); exact rfl; (intro w hw; exact h3 w (hw.rd rfl hT) (hw.rd rfl hA)); exact rfl); exact rfl; (rintro _ _ ⟨A1, c1, rfl, rfl⟩)) | ((with_reducible apply TD_e2); ((with_reducible apply ES_callOwn (f := 49)); exact rfl; (intro w hw; exact h3 w (hw.rd rfl hT) (hw.rd rfl hA)); exact rfl); exact rfl; (rintro _ _ ⟨A1, c1, rfl, rfl⟩); refine ⟨by (repeat (first | with_reducible exact List.nil_sublist _ | with_reducible exact List.Sublist.refl _ | with_reducible apply List.Sublist.cons_cons | with_reducible apply List.Sublist.cons)), ?_⟩) | ((with_reducible apply TD_e3); ((with_reducible apply ES_callOwn (f := 49)); exact rfl; (intro w hw; exact h3 w (hw.rd rfl hT) (hw.rd rfl hA)); exact rfl); exact rfl; (rintro _ _ ⟨A1, c1, rfl, rfl⟩)) | ((with_reducible apply TD_e2y); exact rfl; exact rfl; (with_reducible exact rfl); ((with_reducible apply ES_callOwn (f := 49)); exact rfl; (intro w hw; exact h3 w (hw.rd rfl hT) (hw.rd rfl hA)); exact rfl); (rintro _ _ ⟨A1, c1, rfl, rfl⟩); refine ⟨by (repeat (first | with_reducible exact List.nil_sublist _ | with_reducible exact List.Sublist.refl _ | with_reducible apply List.Sublist.cons_cons | with_reducible apply List.Sublist.cons)), ?_⟩) | ((with_reducible apply TD_e3y); exact rfl; exact rfl; (with_reducible exact rfl); ((with_reducible apply ES_callOwn (f := 49)); exact rfl; (intro w hw; exact h3 w (hw.rd rfl hT) (hw.rd rfl hA)); exact rfl); (rintro _ _ ⟨A1, c1, rfl, rfl⟩))
    | ((with_reducible apply TL_q); (((with_reducible apply QS_eqlRel 0 (fun _ => 0)); exact rfl; exact rfl)); exact rfl) | fail)
  all_goals
    (refine At_ret Try.results8 rfl (fun w' hw => ?_))
    exact ⟨by simp [resVal], hw.below0 rfl⟩
set_option maxRecDepth 100000 in
set_option maxHeartbeats 1000000 in
theorem causalSays_ok (cs : List Cl) (he : fewR ts l = (cs, 0)) (hF : Few cs) : Calls Try.prog 8 #[.slice A0 ts.length c0, .slice B0 l.length d0] w fun x w' => x = .returned (.bool true) ∧ Below w.heap.size w w' := by
  have h1 := fun w h1 h2 => causes_ok A0 B0 c0 d0 ts l w hts hl h1 h2 cs he hF
  have h2 := fun w h1 h2 => causalAll_ok A0 B0 c0 d0 ts l w hts hl h1 h2 cs he hF
  have h3 := fun w h1 h2 => fewCalls_any A0 B0 c0 d0 ts l w hts hl h1 h2
  rw [he] at h3
  clear he
  have h4 := fun A c w h => causeRel_any A c cs w hF h
  have h5 := fun A c w h => peopleRel_any A c cs w hF h
  have h6 := fun A c f w h => allViews_any A c cs f w hF h
  have hp := all_same (progF_irr cs)
  have hc := fun h => all_same (cs := cs) (f := closedF cs.length (relCause cs)) (noCyc h)
  obtain ⟨cf, hcf⟩ : ∃ cf, closedF cs.length (relCause cs) = cf := ⟨_, rfl⟩
  rw [hcf] at h1 h2 h4 hc
  obtain ⟨cy, hcy⟩ : ∃ cy, isCyc cs.length cf = cy := ⟨_, rfl⟩
  rw [hcy] at h2 h4 hc
  rw [hp] at h2
  obtain ⟨D, hD⟩ : ∃ D, allD cs = D := ⟨_, rfl⟩
  rw [hD] at h2 h6 hc
  obtain ⟨v1, hv1⟩ : ∃ v, allF cs cf = v := ⟨_, rfl⟩
  rw [hv1] at h2 hc
  obtain ⟨pf, hpf⟩ : ∃ pf, relProg cs = pf := ⟨_, rfl⟩
  rw [hpf] at h2 h5
  obtain ⟨b1, hb1⟩ : ∃ b, (!cy && v1) = b := ⟨_, rfl⟩
  rw [hb1] at h2
  clear hp hcf hcy hD hv1 hpf
  refine calls_T (S := []) [] Try.func8 rfl Try.ntmps8 (by simp) (Mem.nil _) ?_
  repeat' (first
    | first | with_reducible apply T_seq | with_reducible apply T_region | with_reducible apply TL_nil | with_reducible apply At_then | with_reducible apply T_block | with_reducible apply At_block | with_reducible apply T_skip | with_reducible apply T_exit | with_reducible apply At_then_exit | with_reducible apply At_block_exit | ((with_reducible apply At_block_past); exact rfl) | with_reducible apply T_ret | with_reducible apply At_then_ret | with_reducible apply At_block_ret | with_reducible apply TD_nil | with_reducible apply TD_fork | ((with_reducible apply TL_q); exact QS.auto; exact rfl) | ((with_reducible apply TL_e); exact ES.auto; exact rfl; (first | (rintro _ _ ⟨rfl, rfl⟩) | (rintro _ _ ⟨g, rfl, rfl⟩) | (rintro _ _ ⟨A', c', rfl, rfl⟩))) | (first | ((with_reducible apply TL_yes); exact rfl; exact rfl; (with_reducible exact rfl)) | ((with_reducible apply TL_no); exact rfl; exact rfl; (first | with_reducible exact Bool.not_true.symm | with_reducible exact Bool.not_false.symm); exact rfl) | ((with_reducible apply TL_no_undef); exact rfl; exact rfl; exact rfl) | (((with_reducible apply TL_guard); exact rfl; exact rfl; (fail_if_success (with_reducible refine imp_lit1 ?_)); (fail_if_success (with_reducible refine imp_lit0))) <;> intro h <;> (try (repeat (first | with_reducible (replace h := of_decide_eq_true h) | with_reducible (replace h := of_decide_eq_false h) | with_reducible (replace h := bnt h) | with_reducible (replace h := bnf h) | with_reducible (replace h := Int.not_lt.mp h) | with_reducible (replace h := Int.not_le.mp h) | with_reducible (replace h := band_dec h) | with_reducible (replace h := band_decF h) | with_reducible (replace h := bor_dec h) | with_reducible (replace h := bor_decF h)))) <;> (try (exfalso; first | contradiction | omega))) | (((with_reducible apply TD_guard); exact rfl; exact rfl; (fail_if_success (with_reducible refine imp_lit1 ?_)); (fail_if_success (with_reducible refine imp_lit0))) <;> intro h <;> (try (repeat (first | with_reducible (replace h := of_decide_eq_true h) | with_reducible (replace h := of_decide_eq_false h) | with_reducible (replace h := bnt h) | with_reducible (replace h := bnf h) | with_reducible (replace h := Int.not_lt.mp h) | with_reducible (replace h := Int.not_le.mp h) | with_reducible (replace h := band_dec h) | with_reducible (replace h := band_decF h) | with_reducible (replace h := bor_dec h) | with_reducible (replace h := bor_decF h)))) <;> (try (exfalso; first | contradiction | omega)))) | (((with_reducible apply T_cond); exact rfl) <;> intro h <;> (try (repeat (first | with_reducible (replace h := of_decide_eq_true h) | with_reducible (replace h := of_decide_eq_false h) | with_reducible (replace h := bnt h) | with_reducible (replace h := bnf h) | with_reducible (replace h := Int.not_lt.mp h) | with_reducible (replace h := Int.not_le.mp h) | with_reducible (replace h := band_dec h) | with_reducible (replace h := band_decF h) | with_reducible (replace h := bor_dec h) | with_reducible (replace h := bor_decF h)))) <;> (try (exfalso; first | contradiction | omega))) | first | ((with_reducible apply TL_e); ((with_reducible apply ES_callV (f := 47)); exact rfl; (intro w hw; exact h1 w (hw.rd rfl hT) (hw.rd rfl hA)); exact rfl); exact rfl; (rintro _ _ ⟨rfl, rfl⟩)) | ((with_reducible apply TD_e2); ((with_reducible apply ES_callV (f := 47)); exact rfl; (intro w hw; exact h1 w (hw.rd rfl hT) (hw.rd rfl hA)); exact rfl); exact rfl; (rintro _ _ ⟨rfl, rfl⟩); refine ⟨by (repeat (first | with_reducible exact List.nil_sublist _ | with_reducible exact List.Sublist.refl _ | with_reducible apply List.Sublist.cons_cons | with_reducible apply List.Sublist.cons)), ?_⟩) | ((with_reducible apply TD_e3); ((with_reducible apply ES_callV (f := 47)); exact rfl; (intro w hw; exact h1 w (hw.rd rfl hT) (hw.rd rfl hA)); exact rfl); exact rfl; (rintro _ _ ⟨rfl, rfl⟩)) | ((with_reducible apply TD_e2y); exact rfl; exact rfl; (with_reducible exact rfl); ((with_reducible apply ES_callV (f := 47)); exact rfl; (intro w hw; exact h1 w (hw.rd rfl hT) (hw.rd rfl hA)); exact rfl); (rintro _ _ ⟨rfl, rfl⟩); refine ⟨by (repeat (first | with_reducible exact List.nil_sublist _ | with_reducible exact List.Sublist.refl _ | with_reducible apply List.Sublist.cons_cons | with_reducible apply List.Sublist.cons)), ?_⟩) | ((with_reducible apply TD_e3y); exact rfl; exact rfl; (with_reducible exact rfl); ((with_reducible apply ES_callV (f := 47)); exact rfl; (intro w hw; exact h1 w (hw.rd rfl hT) (hw.rd rfl hA)); exact rfl); (rintro _ _ ⟨rfl, rfl⟩)) | first | ((with_reducible apply TL_e); ((with_reducible apply ES_callV (f := 48)); exact rfl; (intro w hw; exact h2 w (hw.rd rfl hT) (hw.rd rfl hA)); exact rfl); exact rfl; (rintro _ _ ⟨rfl, rfl⟩)) | ((with_reducible apply TD_e2); ((with_reducible apply ES_callV (f := 48)); exact rfl; (intro w hw; exact h2 w (hw.rd rfl hT) (hw.rd rfl hA)); exact rfl); exact rfl; (rintro _ _ ⟨rfl, rfl⟩); refine ⟨by (repeat (first | with_reducible exact List.nil_sublist _ | with_reducible exact List.Sublist.refl _ | with_reducible apply List.Sublist.cons_cons | with_reducible apply List.Sublist.cons)), ?_⟩) | ((with_reducible apply TD_e3); ((with_reducible apply ES_callV (f := 48)); exact rfl; (intro w hw; exact h2 w (hw.rd rfl hT) (hw.rd rfl hA)); exact rfl); exact rfl; (rintro _ _ ⟨rfl, rfl⟩)) | ((with_reducible apply TD_e2y); exact rfl; exact rfl; (with_reducible exact rfl); ((with_reducible apply ES_callV (f := 48)); exact rfl; (intro w hw; exact h2 w (hw.rd rfl hT) (hw.rd rfl hA)); exact rfl); (rintro _ _ ⟨rfl, rfl⟩); refine ⟨by (repeat (first | with_reducible exact List.nil_sublist _ | with_reducible exact List.Sublist.refl _ | with_reducible apply List.Sublist.cons_cons | with_reducible apply List.Sublist.cons)), ?_⟩) | ((with_reducible apply TD_e3y); exact rfl; exact rfl; (with_reducible exact rfl); ((with_reducible apply ES_callV (f := 48)); exact rfl; (intro w hw; exact h2 w (hw.rd rfl hT) (hw.rd rfl hA)); exact rfl); (rintro _ _ ⟨rfl, rfl⟩))
    | first | ((with_reducible apply TL_e); ((with_reducible apply ES_callOwn (f := 49)); exact rfl; (intro w hw; exact h3 w (hw.rd rfl hT) (hw.rd rfl hA)); exact rfl); exact rfl; (rintro _ _ ⟨A1, c1, rfl, rfl⟩)) | ((with_reducible apply TD_e2); ((with_reducible apply ES_callOwn (f := 49)); exact rfl; (intro w hw; exact h3 w (hw.rd rfl hT) (hw.rd rfl hA)); exact rfl); exact rfl; (rintro _ _ ⟨A1, c1, rfl, rfl⟩); refine ⟨by (repeat (first | with_reducible exact List.nil_sublist _ | with_reducible exact List.Sublist.refl _ | with_reducible apply List.Sublist.cons_cons | with_reducible apply List.Sublist.cons)), ?_⟩) | ((with_reducible apply TD_e3); ((with_reducible apply ES_callOwn (f := 49)); exact rfl; (intro w hw; exact h3 w (hw.rd rfl hT) (hw.rd rfl hA)); exact rfl); exact rfl; (rintro _ _ ⟨A1, c1, rfl, rfl⟩)) | ((with_reducible apply TD_e2y); exact rfl; exact rfl; (with_reducible exact rfl); ((with_reducible apply ES_callOwn (f := 49)); exact rfl; (intro w hw; exact h3 w (hw.rd rfl hT) (hw.rd rfl hA)); exact rfl); (rintro _ _ ⟨A1, c1, rfl, rfl⟩); refine ⟨by (repeat (first | with_reducible exact List.nil_sublist _ | with_reducible exact List.Sublist.refl _ | with_reducible apply List.Sublist.cons_cons | with_reducible apply List.Sublist.cons)), ?_⟩) | ((with_reducible apply TD_e3y); exact rfl; exact rfl; (with_reducible exact rfl); ((with_reducible apply ES_callOwn (f := 49)); exact rfl; (intro w hw; exact h3 w (hw.rd rfl hT) (hw.rd rfl hA)); exact rfl); (rintro _ _ ⟨A1, c1, rfl, rfl⟩))
    | first | ((with_reducible apply TL_e); ((with_reducible apply ES_callV (f := 50)); exact rfl; (intro w hw; exact h4 _ _ w (hw.ownRd (by first | ((repeat (first | with_reducible exact List.mem_cons_self | with_reducible apply List.mem_cons_of_mem)); done) | (repeat (first | exact List.Mem.head _ | apply List.Mem.tail))) (fun _ => rfl))); exact rfl); exact rfl; (rintro _ _ ⟨rfl, rfl⟩)) | ((with_reducible apply TD_e2); ((with_reducible apply ES_callV (f := 50)); exact rfl; (intro w hw; exact h4 _ _ w (hw.ownRd (by first | ((repeat (first | with_reducible exact List.mem_cons_self | with_reducible apply List.mem_cons_of_mem)); done) | (repeat (first | exact List.Mem.head _ | apply List.Mem.tail))) (fun _ => rfl))); exact rfl); exact rfl; (rintro _ _ ⟨rfl, rfl⟩); refine ⟨by (repeat (first | with_reducible exact List.nil_sublist _ | with_reducible exact List.Sublist.refl _ | with_reducible apply List.Sublist.cons_cons | with_reducible apply List.Sublist.cons)), ?_⟩) | ((with_reducible apply TD_e3); ((with_reducible apply ES_callV (f := 50)); exact rfl; (intro w hw; exact h4 _ _ w (hw.ownRd (by first | ((repeat (first | with_reducible exact List.mem_cons_self | with_reducible apply List.mem_cons_of_mem)); done) | (repeat (first | exact List.Mem.head _ | apply List.Mem.tail))) (fun _ => rfl))); exact rfl); exact rfl; (rintro _ _ ⟨rfl, rfl⟩)) | ((with_reducible apply TD_e2y); exact rfl; exact rfl; (with_reducible exact rfl); ((with_reducible apply ES_callV (f := 50)); exact rfl; (intro w hw; exact h4 _ _ w (hw.ownRd (by first | ((repeat (first | with_reducible exact List.mem_cons_self | with_reducible apply List.mem_cons_of_mem)); done) | (repeat (first | exact List.Mem.head _ | apply List.Mem.tail))) (fun _ => rfl))); exact rfl); (rintro _ _ ⟨rfl, rfl⟩); refine ⟨by (repeat (first | with_reducible exact List.nil_sublist _ | with_reducible exact List.Sublist.refl _ | with_reducible apply List.Sublist.cons_cons | with_reducible apply List.Sublist.cons)), ?_⟩) | ((with_reducible apply TD_e3y); exact rfl; exact rfl; (with_reducible exact rfl); ((with_reducible apply ES_callV (f := 50)); exact rfl; (intro w hw; exact h4 _ _ w (hw.ownRd (by first | ((repeat (first | with_reducible exact List.mem_cons_self | with_reducible apply List.mem_cons_of_mem)); done) | (repeat (first | exact List.Mem.head _ | apply List.Mem.tail))) (fun _ => rfl))); exact rfl); (rintro _ _ ⟨rfl, rfl⟩))
    | first | ((with_reducible apply TL_e); ((with_reducible apply ES_callV (f := 52)); exact rfl; (intro w hw; exact h5 _ _ w (hw.ownRd (by first | ((repeat (first | with_reducible exact List.mem_cons_self | with_reducible apply List.mem_cons_of_mem)); done) | (repeat (first | exact List.Mem.head _ | apply List.Mem.tail))) (fun _ => rfl))); exact rfl); exact rfl; (rintro _ _ ⟨rfl, rfl⟩)) | ((with_reducible apply TD_e2); ((with_reducible apply ES_callV (f := 52)); exact rfl; (intro w hw; exact h5 _ _ w (hw.ownRd (by first | ((repeat (first | with_reducible exact List.mem_cons_self | with_reducible apply List.mem_cons_of_mem)); done) | (repeat (first | exact List.Mem.head _ | apply List.Mem.tail))) (fun _ => rfl))); exact rfl); exact rfl; (rintro _ _ ⟨rfl, rfl⟩); refine ⟨by (repeat (first | with_reducible exact List.nil_sublist _ | with_reducible exact List.Sublist.refl _ | with_reducible apply List.Sublist.cons_cons | with_reducible apply List.Sublist.cons)), ?_⟩) | ((with_reducible apply TD_e3); ((with_reducible apply ES_callV (f := 52)); exact rfl; (intro w hw; exact h5 _ _ w (hw.ownRd (by first | ((repeat (first | with_reducible exact List.mem_cons_self | with_reducible apply List.mem_cons_of_mem)); done) | (repeat (first | exact List.Mem.head _ | apply List.Mem.tail))) (fun _ => rfl))); exact rfl); exact rfl; (rintro _ _ ⟨rfl, rfl⟩)) | ((with_reducible apply TD_e2y); exact rfl; exact rfl; (with_reducible exact rfl); ((with_reducible apply ES_callV (f := 52)); exact rfl; (intro w hw; exact h5 _ _ w (hw.ownRd (by first | ((repeat (first | with_reducible exact List.mem_cons_self | with_reducible apply List.mem_cons_of_mem)); done) | (repeat (first | exact List.Mem.head _ | apply List.Mem.tail))) (fun _ => rfl))); exact rfl); (rintro _ _ ⟨rfl, rfl⟩); refine ⟨by (repeat (first | with_reducible exact List.nil_sublist _ | with_reducible exact List.Sublist.refl _ | with_reducible apply List.Sublist.cons_cons | with_reducible apply List.Sublist.cons)), ?_⟩) | ((with_reducible apply TD_e3y); exact rfl; exact rfl; (with_reducible exact rfl); ((with_reducible apply ES_callV (f := 52)); exact rfl; (intro w hw; exact h5 _ _ w (hw.ownRd (by first | ((repeat (first | with_reducible exact List.mem_cons_self | with_reducible apply List.mem_cons_of_mem)); done) | (repeat (first | exact List.Mem.head _ | apply List.Mem.tail))) (fun _ => rfl))); exact rfl); (rintro _ _ ⟨rfl, rfl⟩))
    | first | ((with_reducible apply TL_e); ((with_reducible apply ES_callV (f := 51)); exact rfl; (intro w hw; exact h6 _ _ _ w (hw.ownRd (by first | ((repeat (first | with_reducible exact List.mem_cons_self | with_reducible apply List.mem_cons_of_mem)); done) | (repeat (first | exact List.Mem.head _ | apply List.Mem.tail))) (fun _ => rfl))); exact rfl); exact rfl; (rintro _ _ ⟨rfl, rfl⟩)) | ((with_reducible apply TD_e2); ((with_reducible apply ES_callV (f := 51)); exact rfl; (intro w hw; exact h6 _ _ _ w (hw.ownRd (by first | ((repeat (first | with_reducible exact List.mem_cons_self | with_reducible apply List.mem_cons_of_mem)); done) | (repeat (first | exact List.Mem.head _ | apply List.Mem.tail))) (fun _ => rfl))); exact rfl); exact rfl; (rintro _ _ ⟨rfl, rfl⟩); refine ⟨by (repeat (first | with_reducible exact List.nil_sublist _ | with_reducible exact List.Sublist.refl _ | with_reducible apply List.Sublist.cons_cons | with_reducible apply List.Sublist.cons)), ?_⟩) | ((with_reducible apply TD_e3); ((with_reducible apply ES_callV (f := 51)); exact rfl; (intro w hw; exact h6 _ _ _ w (hw.ownRd (by first | ((repeat (first | with_reducible exact List.mem_cons_self | with_reducible apply List.mem_cons_of_mem)); done) | (repeat (first | exact List.Mem.head _ | apply List.Mem.tail))) (fun _ => rfl))); exact rfl); exact rfl; (rintro _ _ ⟨rfl, rfl⟩)) | ((with_reducible apply TD_e2y); exact rfl; exact rfl; (with_reducible exact rfl); ((with_reducible apply ES_callV (f := 51)); exact rfl; (intro w hw; exact h6 _ _ _ w (hw.ownRd (by first | ((repeat (first | with_reducible exact List.mem_cons_self | with_reducible apply List.mem_cons_of_mem)); done) | (repeat (first | exact List.Mem.head _ | apply List.Mem.tail))) (fun _ => rfl))); exact rfl); (rintro _ _ ⟨rfl, rfl⟩); refine ⟨by (repeat (first | with_reducible exact List.nil_sublist _ | with_reducible exact List.Sublist.refl _ | with_reducible apply List.Sublist.cons_cons | with_reducible apply List.Sublist.cons)), ?_⟩) | ((with_reducible apply TD_e3y); exact rfl; exact rfl; (with_reducible exact rfl); ((with_reducible apply ES_callV (f := 51)); exact rfl; (intro w hw; exact h6 _ _ _ w (hw.ownRd (by first | ((repeat (first | with_reducible exact List.mem_cons_self | with_reducible apply List.mem_cons_of_mem)); done) | (repeat (first | exact List.Mem.head _ | apply List.Mem.tail))) (fun _ => rfl))); exact rfl); (rintro _ _ ⟨rfl, rfl⟩))
    | ((with_reducible apply TL_q); (((with_reducible apply QS_eqlRel cs.length cf); exact rfl; exact rfl)); exact rfl) | fail)
  · (refine At_ret Try.results8 rfl (fun w' hw => ?_))
    exact ⟨by simp [resVal], hw.below0 rfl⟩
  · exact absurd (by rw [← hb1, show cy = false by assumption, hc (by assumption)]; rfl) (show ¬ b1 = D cf by assumption)
  · (refine At_ret Try.results8 rfl (fun w' hw => ?_))
    exact ⟨by simp [resVal], hw.below0 rfl⟩
  · exact absurd (by rw [← hb1, show cy = true by assumption]; rfl) (show ¬ b1 = false by assumption)
theorem causalSays_any : Calls Try.prog 8 #[.slice A0 ts.length c0, .slice B0 l.length d0] w fun x w' => x = .returned (.bool true) ∧ Below w.heap.size w w' := by
  have hF := few_of (ts := ts) (l := l)
  obtain ⟨cs, e, hf⟩ : ∃ cs e, fewR ts l = (cs, e) := ⟨_, _, rfl⟩
  rw [hf] at hF
  by_cases he : e = 0
  · subst he
    exact causalSays_ok A0 B0 c0 d0 ts l w hts hl hT hA cs hf (hF rfl)
  · have hcs : cs = [] := by
      unfold fewR at hf
      split at hf
      · cases hf; rfl
      · split at hf
        · cases hf; rfl
        · split at hf
          · cases hf; rfl
          · cases hf; exact absurd rfl he
    subst hcs
    exact causalSays_bad A0 B0 c0 d0 ts l w hts hl hT hA e hf he
end

open Go.ChangeShapes Go.WideShapes Go.ChangeAt Go.Deep in
set_option maxRecDepth 100000 in
theorem causalSays_contract (H : Type) (enc : TypeId × Value → H) (W : World) (base : Nat) (args : Array Value) (ds gs : List (DataW H)) (before : List MemPlace)
    (hval : ∀ (j : Nat) t v, Try.f8.params[j]? = some t → args[j]? = some v → Value.okWide Try.prog W .any base t v)
    (hW : DataW.Whole enc Try.prog Try.f8.params.toList Rows.causalSaysSpec.vars false W args.toList ds gs before) :
    Calls Try.prog 8 args W fun e W' => ∃ v, e = .returned v ∧ Rows.causalSaysSpec.post enc Try.prog Try.f8 false true false false W args v W' := by
  have hW' := hW
  obtain ⟨p, q, hA, -, -, -, -⟩ := hW
  rw [Try.params8] at hA hval
  obtain ⟨v0, vs0, d0, ds0, p0, q0, hargs0, rfl, rfl, h0, r0⟩ := trodAll_cons hA
  obtain ⟨v1, vs1, d1, ds1, p1, q1, hargs1, rfl, rfl, h1, r1⟩ := trodAll_cons r0
  obtain ⟨rfl, rfl, rfl⟩ := trodAll_nil r1
  obtain rfl : args = #[v0, v1] := by cases args; simp_all
  obtain ⟨A, n, c, rfl⟩ := okWide_slice Try.underlying22 (hval 0 _ _ rfl rfl)
  obtain ⟨B, m, d, rfl⟩ := okWide_slice Try.underlying35 (hval 1 _ _ rfl rfl)
  obtain ⟨fuel, hf⟩ := h0
  obtain ⟨fuel1, hf1⟩ := h1
  obtain ⟨A', len, cap, Z, hcs, hlen, hlc, hZ⟩ := open_int_list Try.underlying22 Try.underlying3 (by kernel_rfl) hf
  have hcs' : A = A' ∧ n = len ∧ c = cap := by simpa [Value.cells] using hcs
  obtain ⟨rfl, rfl, rfl⟩ := hcs'
  obtain ⟨B', len1, cap1, Z1, hcs1, hlen1, hlc1, hZ1⟩ := open_int_rows Try.underlying35 Try.underlying49 (by kernel_rfl) (by kernel_rfl) Try.underlying3 (by kernel_rfl) hf1
  have hcs1' : B = B' ∧ m = len1 ∧ d = cap1 := by simpa [Value.cells] using hcs1
  obtain ⟨rfl, rfl, rfl⟩ := hcs1'
  have hl : ((List.range n).map fun i => Z i 0).length = n := by simp
  have hl1 : ((List.range m).map fun i => (⟨Z1 i 0, Z1 i 1, Z1 i 2, Z1 i 3⟩ : Ev)).length = m := by simp
  have hR : RdInt W A ((List.range n).map fun i => Z i 0) := rdE_of_list hZ
  have hR1 : RdEv W B ((List.range m).map fun i => (⟨Z1 i 0, Z1 i 1, Z1 i 2, Z1 i 3⟩ : Ev)) :=
    rdE_of_rows (fun z => (⟨z 0, z 1, z 2, z 3⟩ : Ev)) Ev.enc (by decide) (fun z j v hv => by
      match j, hv with
      | 0, hv => exact ⟨by decide, by simpa [Ev.enc] using hv.symm⟩
      | 1, hv => exact ⟨by decide, by simpa [Ev.enc] using hv.symm⟩
      | 2, hv => exact ⟨by decide, by simpa [Ev.enc] using hv.symm⟩
      | 3, hv => exact ⟨by decide, by simpa [Ev.enc] using hv.symm⟩
      | j + 4, hv => simp [Ev.enc] at hv) hZ1
  unfold maxLen at hlen hlen1
  have hcall : Calls Try.prog 8 #[.slice A n c, .slice B m d] W fun e W' => e = .returned (.bool true) ∧ Below W.heap.size W W' := by
    generalize ((List.range n).map fun i => Z i 0) = ts at *
    generalize ((List.range m).map fun i => (⟨Z1 i 0, Z1 i 1, Z1 i 2, Z1 i 3⟩ : Ev)) = l at *
    subst hl hl1
    exact causalSays_any A B c d ts l W (by omega) (by omega) hR hR1
  refine hcall.mono fun e W' ⟨he, hb⟩ => ⟨_, he, ?_⟩
  exact law_post laidOut (by kernel_rfl) rfl rfl Try.underlying4 hW' (fun _ => by subst_vars; rfl) hb

open Go.ChangeShapes Go.WideShapes Go.ChangeAt Go.Deep in
set_option maxRecDepth 100000 in
theorem causalSays_lifted (os : Os) (started : os.Started) (H : Type) (enc : TypeId × Value → H) :
    ReturnsInHanded {} Try.checked os 8 .any (Rows.causalSaysSpec.pre6 enc Try.prog Try.f8 Rows.causalSaysRow.domain false) (Rows.causalSaysSpec.post enc Try.prog Try.f8 false true false false) := by
  refine returnsInHanded_of_change (C := Try.checked) own started (by kernel_rfl) Try.func8
    (ChangeSpec.witness6 (enc := enc) (C := Try.checked) false ⟨#[], #[.slice none 0 0, .slice none 0 0], []⟩ 8 (by kernel_rfl) (by kernel_rfl) (by kernel_rfl) (by kernel_rfl)) ?_
  intro W base args ds gs before hval hW _ _
  exact causalSays_contract H enc W base args ds gs before hval hW
theorem causalSays_holds : Rows.CausalSaysSaid :=
  OpenClaim.holds_of_wide 8 Try.f8 rfl rfl rfl rfl rfl rfl rfl ⟨rfl, rfl, rfl, rfl, rfl⟩ rfl rfl rfl rfl rfl (by kernel_rfl) Try.func8 (by kernel_rfl)
    (of_decide_eq_true (by kernel_rfl)) (by unfold Func.isWrapper; first | (rw [if_pos (by decide +kernel)]; kernel_rfl) | (rw [if_neg (by decide +kernel)]; exact ⟨rfl, rfl⟩))
    (fun os started H enc _ => causalSays_lifted os started H enc)
#print axioms causalSays_holds
end Go.Proofs.Ytppicbdaijiifaa
