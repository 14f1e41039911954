/- Lemmas for the walks (E, P, S, W, R, Mr). No condition. -/
import Derived.Test.YtbhjljnbjomnhaaG04
import Derived.Laws.IdiomRangeMap
set_option linter.unusedSimpArgs false
set_option linter.unusedVariables false
set_option linter.unusedSectionVars false
set_option linter.unnecessarySimpa false
namespace Go.Proofs.Ytbhjljnbjomnhaa
open Go.RowKit

section
variable {P : Program} {C : Ctx} {E : Slots} {S : List Ent}
theorem Lds.auto {s : Nat} {ad : Addr} {v : Value} (h : Lds P C S s ad v := by first | exact Lds.blk (by first | ((repeat (first | with_reducible exact List.mem_cons_self | with_reducible apply List.mem_cons_of_mem)); done) | (repeat (first | exact List.Mem.head _ | apply List.Mem.tail))) (by first | exact relCells_nV _ _ | exact relCells_atV _ _ _ (by omega) | exact rfl) | exact Lds.whole (by first | ((repeat (first | with_reducible exact List.mem_cons_self | with_reducible apply List.mem_cons_of_mem)); done) | (repeat (first | exact List.Mem.head _ | apply List.Mem.tail))) (by first | rfl | exact relCells_size _ _) | exact Lds.rd1 (by assumption) (by first | assumption | (simp; done)) (by first | assumption | omega) rfl | exact Lds.rd0 (by assumption) (by first | assumption | (simp; done)) (by first | assumption | omega) rfl | exact Lds.rd (by assumption) (by first | assumption | (simp; done)) (by first | assumption | omega) rfl | exact Lds.rdAgg (by assumption) (by intro x; rfl) (by first | assumption | (simp; done)) (by first | assumption | omega) | exact Lds.own1 (by first | ((repeat (first | with_reducible exact List.mem_cons_self | with_reducible apply List.mem_cons_of_mem)); done) | (repeat (first | exact List.Mem.head _ | apply List.Mem.tail))) (by intro x; rfl) (by first | assumption | omega) rfl | exact Lds.own0 (by first | ((repeat (first | with_reducible exact List.mem_cons_self | with_reducible apply List.mem_cons_of_mem)); done) | (repeat (first | exact List.Mem.head _ | apply List.Mem.tail))) (by intro x; rfl) (by first | assumption | omega) rfl | exact Lds.own (by first | ((repeat (first | with_reducible exact List.mem_cons_self | with_reducible apply List.mem_cons_of_mem)); done) | (repeat (first | exact List.Mem.head _ | apply List.Mem.tail))) (by intro x; rfl) (by first | assumption | omega) rfl | exact Lds.ownAgg (by first | ((repeat (first | with_reducible exact List.mem_cons_self | with_reducible apply List.mem_cons_of_mem)); done) | (repeat (first | exact List.Mem.head _ | apply List.Mem.tail))) (by intro x; rfl) (by first | assumption | omega) | exact Lds.rdz (by assumption) (by first | assumption | (simp; done)) (by first | assumption | omega) rfl | fail) : Lds P C S s ad v := h
theorem QS.auto {op : Op} {ty : Nat} {v : Value} (h : QS P C E S op ty v := by first | ((with_reducible apply QS_addWW); exact rfl; exact rfl) | ((with_reducible apply QS_move); exact rfl) | ((with_reducible apply QS_assign); exact rfl) | ((with_reducible apply QS_field); exact rfl; (first | exact Nat.add_zero _ | exact Nat.zero_add _ | exact rfl)) | ((with_reducible apply QS_load); exact rfl; exact Lds.auto) | ((with_reducible apply QS_lss); exact rfl; exact rfl) | ((with_reducible apply QS_eql); exact rfl; exact rfl) | ((with_reducible apply QS_neq); exact rfl; exact rfl) | ((with_reducible apply QS_leq); exact rfl; exact rfl) | ((with_reducible apply QS_gtr); exact rfl; exact rfl) | ((with_reducible apply QS_geq); exact rfl; exact rfl) | ((with_reducible apply QS_not); exact rfl) | ((with_reducible apply QS_add); exact rfl; exact rfl; omega; omega) | ((with_reducible apply QS_sub); exact rfl; exact rfl; omega; omega) | ((with_reducible apply QS_mul); exact rfl; exact rfl; omega; omega) | ((with_reducible apply QS_len); exact rfl) | ((with_reducible apply QS_lenArray); exact rfl) | ((with_reducible apply QS_pick_true); exact rfl; (with_reducible exact rfl); exact rfl) | ((with_reducible apply QS_pick_false); exact rfl; (with_reducible exact rfl); exact rfl) | ((with_reducible apply QS_pick_bool); exact rfl; exact rfl; exact rfl) | ((with_reducible apply QS_pick); exact rfl; exact rfl; exact rfl) | ((with_reducible apply QS_index); exact rfl; exact rfl; omega; (first | exact off_z _ _ | exact off_01 _ | exact off_0m _ _ | exact off_o1 _ _ | exact rfl)) | ((with_reducible apply QS_indexA); exact rfl; exact rfl; omega; (first | exact off_z _ _ | exact off_01 _ | exact off_0m _ _ | exact off_o1 _ _ | exact rfl)) | ((with_reducible apply QS_indexL); exact rfl; exact rfl; exact inferInstance; omega; (first | exact off_z _ _ | exact off_01 _ | exact off_0m _ _ | exact off_o1 _ _ | exact rfl)) | ((with_reducible apply QS_indexAL); exact rfl; exact rfl; exact inferInstance; omega; (first | exact off_z _ _ | exact off_01 _ | exact off_0m _ _ | exact off_o1 _ _ | exact rfl)) | ((with_reducible apply QS_indexZ); exact rfl; exact rfl; omega; omega; (first | exact off_z _ _ | exact off_01 _ | exact off_0m _ _ | exact off_o1 _ _ | exact rfl)) | ((with_reducible apply QS_indexAZ); exact rfl; exact rfl; omega; omega; (first | exact off_z _ _ | exact off_01 _ | exact off_0m _ _ | exact off_o1 _ _ | exact rfl)) | ((with_reducible apply QS_extract); exact rfl; exact rfl) | ((with_reducible apply QS_nilCheck); exact rfl) | ((with_reducible apply QS_max); exact rfl; exact rfl) | ((with_reducible apply QS_min); exact rfl; exact rfl) | ((with_reducible apply QS_convert); exact rfl; omega; omega) | ((with_reducible apply QS_buildF); exact rfl; exact rfl; ((repeat (first | exact IsL.nil | apply IsL.cons | exact IsL.refl _)))) | ((with_reducible apply QS_shr16); exact rfl; exact rfl; (first | assumption | omega | decide | exact Nat.lt_of_le_of_lt (Nat.shiftRight_le _ _) (by first | assumption | omega) | (apply_assumption <;> omega))) | ((with_reducible apply QS_and16); exact rfl; exact rfl; (first | assumption | omega | decide | exact Nat.lt_of_le_of_lt (Nat.shiftRight_le _ _) (by first | assumption | omega) | (apply_assumption <;> omega)); (first | assumption | omega | decide | exact Nat.lt_of_le_of_lt (Nat.shiftRight_le _ _) (by first | assumption | omega) | (apply_assumption <;> omega))) | ((with_reducible apply QS_or16); exact rfl; exact rfl; (first | assumption | omega | decide | exact Nat.lt_of_le_of_lt (Nat.shiftRight_le _ _) (by first | assumption | omega) | (apply_assumption <;> omega)); (first | assumption | omega | decide | exact Nat.lt_of_le_of_lt (Nat.shiftRight_le _ _) (by first | assumption | omega) | (apply_assumption <;> omega))) | ((with_reducible apply QS_andNot16); exact rfl; exact rfl; (first | assumption | omega | decide | exact Nat.lt_of_le_of_lt (Nat.shiftRight_le _ _) (by first | assumption | omega) | (apply_assumption <;> omega)); (first | assumption | omega | decide | exact Nat.lt_of_le_of_lt (Nat.shiftRight_le _ _) (by first | assumption | omega) | (apply_assumption <;> omega))) | ((with_reducible apply QS_shl16); exact rfl; exact rfl; omega) | ((with_reducible apply QS_shr64); exact rfl; exact rfl; (first | assumption | omega | decide | exact Nat.lt_of_le_of_lt (Nat.shiftRight_le _ _) (by first | assumption | omega) | (apply_assumption <;> omega))) | ((with_reducible apply QS_and64); exact rfl; exact rfl; (first | assumption | omega | decide | exact Nat.lt_of_le_of_lt (Nat.shiftRight_le _ _) (by first | assumption | omega) | (apply_assumption <;> omega)); (first | assumption | omega | decide | exact Nat.lt_of_le_of_lt (Nat.shiftRight_le _ _) (by first | assumption | omega) | (apply_assumption <;> omega))) | ((with_reducible apply QS_or64); exact rfl; exact rfl; (first | assumption | omega | decide | exact Nat.lt_of_le_of_lt (Nat.shiftRight_le _ _) (by first | assumption | omega) | (apply_assumption <;> omega)); (first | assumption | omega | decide | exact Nat.lt_of_le_of_lt (Nat.shiftRight_le _ _) (by first | assumption | omega) | (apply_assumption <;> omega))) | ((with_reducible apply QS_shl64); exact rfl; exact rfl; omega) | ((with_reducible apply QS_eqlB); exact rfl; exact rfl) | ((with_reducible apply QS_neqB); exact rfl; exact rfl) | ((with_reducible apply QS_sliceLow); exact rfl; exact rfl; (first | assumption | omega)) | ((with_reducible apply QS_eqlNil); exact rfl; exact rfl) | ((with_reducible apply QS_neqNil); exact rfl; exact rfl) | ((with_reducible apply QS_addW); exact rfl; exact rfl) | ((with_reducible apply QS_subW); exact rfl; exact rfl) | ((with_reducible apply QS_mulW); exact rfl; exact rfl) | ((with_reducible apply QS_lookI); exact rfl; exact rfl; (first | ((repeat (first | with_reducible exact List.mem_cons_self | with_reducible apply List.mem_cons_of_mem)); done) | (repeat (first | exact List.Mem.head _ | apply List.Mem.tail)))) | ((with_reducible apply QS_lookIok); exact rfl; exact rfl; (first | ((repeat (first | with_reducible exact List.mem_cons_self | with_reducible apply List.mem_cons_of_mem)); done) | (repeat (first | exact List.Mem.head _ | apply List.Mem.tail)))) | ((with_reducible apply QS_lookB); exact rfl; exact rfl; (first | ((repeat (first | with_reducible exact List.mem_cons_self | with_reducible apply List.mem_cons_of_mem)); done) | (repeat (first | exact List.Mem.head _ | apply List.Mem.tail)))) | ((with_reducible apply QS_lookBok); exact rfl; exact rfl; (first | ((repeat (first | with_reducible exact List.mem_cons_self | with_reducible apply List.mem_cons_of_mem)); done) | (repeat (first | exact List.Mem.head _ | apply List.Mem.tail)))) | ((with_reducible apply QS_lenMap); exact rfl; (first | ((repeat (first | with_reducible exact List.mem_cons_self | with_reducible apply List.mem_cons_of_mem)); done) | (repeat (first | exact List.Mem.head _ | apply List.Mem.tail)))) | ((with_reducible apply QS_makeFunc); exact rfl; exact rfl) | fail) : QS P C E S op ty v := h
theorem ES.auto {o : Oper} {N : Slots → List Ent → Prop} (h : ES P C E S o N := by first | ((with_reducible apply ES_alloc); (first | exact cells_agg _ | exact cellsL (by (repeat (first | exact IsL.nil | apply IsL.cons | exact IsL.refl _))) | exact rfl); exact rfl) | ((with_reducible apply ES_box); exact rfl; (first | exact cells_agg _ | exact cellsL (by (repeat (first | exact IsL.nil | apply IsL.cons | exact IsL.refl _))) | exact rfl); exact rfl) | ((with_reducible apply ES_buildSliceF); exact rfl; exact rfl; exact rfl; exact rfl; exact rfl; ((repeat (first | exact IsL.nil | apply IsL.cons | exact IsL.refl _))); exact rfl) | ((with_reducible apply ES_storeWhole); exact rfl; exact rfl; (first | ((repeat (first | with_reducible exact Upd.here _ _ _ | with_reducible apply Upd.there)); done) | (repeat (first | exact Upd.here _ _ _ | apply Upd.there))); (first | exact rfl | exact relCells_size _ _); (first | exact rfl | exact relCells_size _ _); (first | exact rfl | exact relCells_onesL _ _)) | ((with_reducible apply ES_store); exact rfl; exact rfl; (first | ((repeat (first | with_reducible exact Upd.here _ _ _ | with_reducible apply Upd.there)); done) | (repeat (first | exact Upd.here _ _ _ | apply Upd.there))); (first | exact relCells_set _ _ _ _ (by omega) | exact arrSet (by (repeat (first | exact IsL.nil | apply IsL.cons | exact IsL.refl _))) | rfl); (first | (simp only [relCells_size, List.size_toArray, List.length_cons, List.length_nil]; omega) | (simp [relCells_size]; done) | (simp [relCells_size]; omega)); exact rfl) | ((with_reducible apply ES_storeOwn1); exact rfl; exact rfl; (first | ((repeat (first | with_reducible exact Upd.here _ _ _ | with_reducible apply Upd.there)); done) | (repeat (first | exact Upd.here _ _ _ | apply Upd.there))); exact fun _ => rfl; (first | exact List.getElem?_set_self (by first | assumption | omega) | exact List.getElem?_eq_getElem (by first | assumption | omega | (simp only [List.length_set]; omega))); (first | exact rfl  ); exact rfl) | ((with_reducible apply ES_storeOwn0); exact rfl; exact rfl; (first | ((repeat (first | with_reducible exact Upd.here _ _ _ | with_reducible apply Upd.there)); done) | (repeat (first | exact Upd.here _ _ _ | apply Upd.there))); exact fun _ => rfl; (first | exact List.getElem?_set_self (by first | assumption | omega) | exact List.getElem?_eq_getElem (by first | assumption | omega | (simp only [List.length_set]; omega))); decide; (first | exact rfl  ); exact rfl) | ((with_reducible apply ES_storeOwn); exact rfl; exact rfl; (first | ((repeat (first | with_reducible exact Upd.here _ _ _ | with_reducible apply Upd.there)); done) | (repeat (first | exact Upd.here _ _ _ | apply Upd.there))); exact fun _ => rfl; (first | exact List.getElem?_set_self (by first | assumption | omega) | exact List.getElem?_eq_getElem (by first | assumption | omega | (simp only [List.length_set]; omega))); decide; (first | exact rfl  ); exact rfl) | ((with_reducible apply ES_makeSlice (enc := intEnc) (z0 := 0)); exact rfl; exact rfl; exact rfl; (first | omega | (simp; omega)); decide; exact rfl) | ((with_reducible apply ES_makeSlice (enc := boolEnc) (z0 := false)); exact rfl; exact rfl; exact rfl; (first | omega | (simp; omega)); decide; exact rfl) | ((with_reducible apply ES_makeMapI); exact rfl) | ((with_reducible apply ES_makeMapB); exact rfl) | ((with_reducible apply ES_mapUpdate); exact rfl; exact rfl; (first | ((repeat (first | with_reducible exact Upd.here _ _ _ | with_reducible apply Upd.there)); done) | (repeat (first | exact Upd.here _ _ _ | apply Upd.there))); exact rfl) | fail) : ES P C E S o N := h
/-- what a step leaves to be shown -/
structure Rest (R : Prop) : Prop where
  out : R
/-! one step of a walk: what is left to be shown is the step's own to find -/
theorem GO {p R : Prop} (r : R) (h : Rest R → p := by intro r; first | ((with_reducible (first | apply T_seq | apply T_region | apply TL_nil | apply At_then | apply T_block | apply At_block | apply T_skip | apply T_exit | apply At_then_exit | apply At_block_exit | apply T_ret | apply At_then_ret | apply At_block_ret | apply TD_nil)); exact r.out) | ((with_reducible apply At_block_past); exact rfl; exact r.out) | ((with_reducible apply TL_q); exact QS.auto; exact rfl; exact r.out) | ((with_reducible apply TL_yes); exact rfl; exact rfl; (with_reducible exact rfl); exact r.out) | ((with_reducible apply TL_no); exact rfl; exact rfl; (first | with_reducible exact Bool.not_true.symm | with_reducible exact Bool.not_false.symm); exact rfl; exact r.out) | ((with_reducible apply TL_no_undef); exact rfl; exact rfl; exact rfl; exact r.out)) : p := h ⟨r⟩
theorem GOE {p R : Prop} (r : R) (h : Rest R → p := by intro r; (with_reducible apply TL_e); exact ES.auto; exact rfl; exact r.out) : p := h ⟨r⟩
theorem GO2 {p R T : Prop} (r : R) (s : T) (h : Rest R → Rest T → p := by intro r s; first | ((with_reducible apply T_cond); exact rfl; exact r.out; exact s.out) | ((with_reducible (first | apply TL_guard | apply TD_guard)); exact rfl; exact rfl; (fail_if_success (with_reducible refine imp_lit1 ?_)); (fail_if_success (with_reducible refine imp_lit0)); exact r.out; exact s.out)) : p := h ⟨r⟩ ⟨s⟩
theorem GG {p R : Prop} (r : R) (h : Rest R → p := by intro r; first | ((with_reducible (first | apply TD_q0 | apply TD_q1 | apply TD_q2 | apply TD_q3)); exact QS.auto; exact rfl; exact r.out) | ((with_reducible (first | apply TD_q0y | apply TD_q1y)); exact rfl; exact rfl; (with_reducible exact rfl); exact QS.auto; exact rfl; exact r.out) | ((with_reducible apply TL_q); exact QS.auto; exact rfl; exact r.out) | ((with_reducible (first | apply T_seq | apply T_region | apply TL_nil | apply At_then | apply T_block | apply At_block | apply T_skip | apply T_exit | apply At_then_exit | apply At_block_exit | apply T_ret | apply At_then_ret | apply At_block_ret | apply TD_nil)); exact r.out) | ((with_reducible apply At_block_past); exact rfl; exact r.out) | ((with_reducible apply TD_no); exact rfl; exact rfl; exact rfl; (first | with_reducible exact Bool.not_true.symm | with_reducible exact Bool.not_false.symm); exact rfl; exact r.out) | ((with_reducible apply TD_eno); exact rfl; exact rfl; exact rfl; (first | with_reducible exact Bool.not_true.symm | with_reducible exact Bool.not_false.symm); exact rfl; exact r.out) | ((with_reducible apply TD_noU); exact rfl; exact rfl; exact rfl; exact rfl; exact r.out) | ((with_reducible apply TD_enoU); exact rfl; exact rfl; exact rfl; exact rfl; exact r.out) | ((with_reducible apply TL_yes); exact rfl; exact rfl; (with_reducible exact rfl); exact r.out) | ((with_reducible apply TL_no); exact rfl; exact rfl; (first | with_reducible exact Bool.not_true.symm | with_reducible exact Bool.not_false.symm); exact rfl; exact r.out) | ((with_reducible apply TL_no_undef); exact rfl; exact rfl; exact rfl; exact r.out)) : p := h ⟨r⟩
theorem GE {p R : Prop} (r : R) (h : Rest R → p := by intro r; first | ((with_reducible (first | apply TD_e2 | apply TD_e3)); exact ES.auto; exact rfl; exact r.out) | ((with_reducible apply TL_e); exact ES.auto; exact rfl; exact r.out) | ((with_reducible (first | apply TD_e2y | apply TD_e3y)); exact rfl; exact rfl; (with_reducible exact rfl); exact ES.auto; exact r.out)) : p := h ⟨r⟩
theorem GOF {p R T : Prop} (r : R) (s : T) (h : Rest R → Rest T → p := by (intro r s; (with_reducible apply TD_fork); exact r.out; exact s.out)) : p := h ⟨r⟩ ⟨s⟩
end
theorem SUB {A B : List Ent} (h : A.Sublist B := by (repeat (first | with_reducible exact List.nil_sublist _ | with_reducible exact List.Sublist.refl _ | with_reducible apply List.Sublist.cons_cons | with_reducible apply List.Sublist.cons))) : A.Sublist B := h
theorem SUBS {C : Ctx} {S S' : List Ent} (h : ∀ w, Mem C w S → Mem C w S' := by (intro w hw; exact hw.sub (by first | ((repeat (first | with_reducible exact List.nil_sublist _ | with_reducible exact List.Sublist.refl _ | with_reducible apply List.Sublist.cons_cons | with_reducible apply List.Sublist.cons)); done) | (repeat (first | exact List.nil_sublist _ | exact List.Sublist.refl _ | apply List.Sublist.cons_cons | apply List.Sublist.cons))))) : ∀ w, Mem C w S → Mem C w S' := h
section
variable {P : Program} {C : Ctx} {Q : Exit → Act → World → Prop} {e : Nat} {S0 S : List Ent} {E : Slots} {l : List Oper} {t : Tr} {ty i j k : Nat} {ps : String} {af : Array Edge} {op : Op} {b want : Bool}
theorem TD_e2z {dst : Option Tmp} {N : Slots → List Ent → Prop} (he : ES P C E S ⟨dst, op, ty, ps, af, some (j, want)⟩ N) (hg : dstAt l j = some k ∧ look k E = some (.bool b) ∧ b = want)
    (h : ∀ E' S', N E' S' → S0.Sublist S' ∧ TD P C l Q e S0 t E' S') : TD P C l Q e S0 (.step 2 i ⟨dst, op, ty, ps, af, some (j, want)⟩ t) E S := TD_e2y hg.1 hg.2.1 hg.2.2 he h
theorem TD_e3z {dst : Option Tmp} {N : Slots → List Ent → Prop} (he : ES P C E S ⟨dst, op, ty, ps, af, some (j, want)⟩ N) (hg : dstAt l j = some k ∧ look k E = some (.bool b) ∧ b = want)
    (h : ∀ E' S', N E' S' → TD P C l Q e S0 t E' S') : TD P C l Q e S0 (.step 3 i ⟨dst, op, ty, ps, af, some (j, want)⟩ t) E S := TD_e3y hg.1 hg.2.1 hg.2.2 he h
end
end Go.Proofs.Ytbhjljnbjomnhaa

namespace Go.Proofs.Ytbhjljnbjomnhaa
open Go.RowKit

/-- S holds what S1 says, in any order; R is left -/
inductive Pull : List Ent → List Ent → List Ent → Prop
  | nil (S : List Ent) : Pull S [] S
  | cons {S R T R' : List Ent} {e : Ent} (h : Pick S e R) (t : Pull R T R') : Pull S (e :: T) R'
theorem Pull.mem : ∀ {S T R : List Ent}, Pull S T R → ∀ f, f ∈ T ++ R ↔ f ∈ S
  | _, _, _, .nil _, f => by simp
  | _, _, _, .cons h t, f => by
    obtain ⟨A, B, rfl, rfl⟩ := h.form
    have := t.mem f
    rw [List.cons_append, List.mem_cons, this]
    simp only [List.mem_append, List.mem_cons]
    constructor
    · rintro (h | h | h)
      · exact .inr (.inl h)
      · exact .inl h
      · exact .inr (.inr h)
    · rintro (h | h | h)
      · exact .inr (.inl h)
      · exact .inl h
      · exact .inr (.inr h)
section
variable {C : Ctx} {w : World} {S T R : List Ent}
theorem Mem.pull (hw : Mem C w S) (h : Pull S T R) : Mem C w (T ++ R) := by
  induction h with
  | nil S => exact hw
  | @cons S R T R' e h t ih =>
    have h1 := hw.pick h
    have hap := List.pairwise_cons.1 h1.apart
    have h2 := ih (h1.sub (List.sublist_cons_self _ _))
    refine ⟨h2.keeps, fun f hf => ?_, ?_⟩
    · rcases List.mem_cons.1 hf with rfl | hf
      · exact h1.holds f (by simp)
      · exact h2.holds f hf
    · exact List.pairwise_cons.2 ⟨fun f hf => hap.1 f ((t.mem f).1 hf), h2.apart⟩
end
/-- one list behind the other, laid flat -/
inductive AppL : List Ent → List Ent → List Ent → Prop
  | nil (R : List Ent) : AppL [] R R
  | cons {T R S2 : List Ent} (e : Ent) (h : AppL T R S2) : AppL (e :: T) R (e :: S2)
theorem AppL.eq {T R S2 : List Ent} (h : AppL T R S2) : T ++ R = S2 := by
  induction h with
  | nil R => rfl
  | cons e _ ih => rw [List.cons_append, ih]
section
variable {P : Program} {C : Ctx} {Q : Exit → Act → World → Prop} {E : Slots} {S S1 S1' R S2 : List Ent}
variable {d ty : Nat} {ps : String} {af : Array Edge} {g0 : Option (Nat × Bool)} {f : Nat}
/-- a call that turns what it is handed -/
theorem ES_callMp [hf : IsFn P f] {xs : List Operand} {vs : List Value} {ats : Array TypeId} {v : Value} (hx : evs E xs = some vs) (hS : Pull S S1 R) (hA : AppL S1' R S2)
    (hc : ∀ w, Mem C w (S1 ++ R) → Calls P f vs.toArray w fun e w' => e = .returned v ∧ Mem ⟨0, blks S1, w⟩ w' S1') (hd : Nat.ble (d + 1) C.n = true) :
    ES P C E S ⟨some d, .call ⟨.value (.func f), xs.toArray, ats⟩, ty, ps, af, g0⟩ (fun E' S' => E' = (d, v) :: E ∧ S' = S2) :=
  (ES_call (fun u T => u = v ∧ T = S1' ++ R) hx (fun w hw => (hc w (hw.pull hS)).mono fun e w' ⟨he, hb⟩ => ⟨v, _, he, (hw.pull hS).frame hb, rfl, rfl⟩) hd).weak (by rintro _ _ ⟨_, ⟨rfl, rfl⟩, rfl⟩; exact ⟨rfl, hA.eq⟩)
/-- a call of a function value that turns what it is handed -/
theorem ES_callFMp [hf : IsFn P f] {x : Operand} {xs : List Operand} {vs us cs : List Value} {ats : Array TypeId} {v : Value} (hv : evo E x = some (.func (.func f) us.toArray cs.toArray)) (hx : evs E xs = some vs) (hS : Pull S S1 R) (hA : AppL S1' R S2)
    (hc : ∀ w, Mem C w (S1 ++ R) → Calls P f (us ++ vs ++ cs).toArray w fun e w' => e = .returned v ∧ Mem ⟨0, blks S1, w⟩ w' S1') (hd : Nat.ble (d + 1) C.n = true) :
    ES P C E S ⟨some d, .call ⟨.value x, xs.toArray, ats⟩, ty, ps, af, g0⟩ (fun E' S' => E' = (d, v) :: E ∧ S' = S2) :=
  (ES_enter (fun u T => u = v ∧ T = S1' ++ R) (fun a w ha => run_callV hv hx ha) (fun w hw => (hc w (hw.pull hS)).mono fun e w' ⟨he, hb⟩ => ⟨v, _, he, (hw.pull hS).frame hb, rfl, rfl⟩) hd).weak (by rintro _ _ ⟨_, ⟨rfl, rfl⟩, rfl⟩; exact ⟨rfl, hA.eq⟩)
theorem Mem.blkAt {w : World} {g t : Nat} {cs : Array Value} (hw : Mem C w S) (hm : entBlk g t cs ∈ S) : g < w.heap.size ∧ ∀ o, w.cell? ⟨g, o, Option.none⟩ = cs[o]? :=
  ⟨((hw.holds _ hm).1 : Blk w g t cs).lt, fun o => ((hw.holds _ hm).1 : Blk w g t cs).cell o⟩
/-- a call that hands back what it made -/
theorem ES_callNew [hf : IsFn P f] {X : Type} {xs : List Operand} {vs : List Value} {ats : Array TypeId} (v : X → Value) (S1 : X → List Ent) {S2 : X → List Ent} (hx : evs E xs = some vs) (hA : ∀ x, AppL (S1 x) S (S2 x))
    (hc : ∀ w, Mem C w S → Calls P f vs.toArray w fun e w' => ∃ x, e = .returned (v x) ∧ Mem ⟨0, [], w⟩ w' (S1 x)) (hd : Nat.ble (d + 1) C.n = true) :
    ES P C E S ⟨some d, .call ⟨.value (.func f), xs.toArray, ats⟩, ty, ps, af, g0⟩ (fun E' S' => ∃ x, E' = (d, v x) :: E ∧ S' = S2 x) :=
  (ES_call (fun u T => ∃ x, u = v x ∧ T = S2 x) hx (fun w hw => (hc w hw).mono fun e w' ⟨x, he, hb⟩ => ⟨v x, _, he, (show Mem C w ([] ++ S) from hw).frame (S1 := []) (n := 0) hb, x, rfl, (hA x).eq⟩) hd).weak
    (by rintro _ _ ⟨_, ⟨x, rfl, rfl⟩, rfl⟩; exact ⟨x, rfl, rfl⟩)
/-- a cut behind an 'if', named by its first region -/
theorem T_cutIf {X : Type} (id : Nat) {ops : Array Oper} {dr : Bool} {x y : Code} (I : X → Slots) (J : X → List Ent) (pre : X → Prop) (hx : T P C (.seq (.region id ops dr) x) (Exit.then (Cut C I J pre) Q) E S) (hy : ∀ z, pre z → T P C y Q (I z) (J z)) : T P C (.seq (.seq (.region id ops dr) x) y) Q E S :=
  T_cut I J pre hx hy
end
end Go.Proofs.Ytbhjljnbjomnhaa

namespace Go.Proofs.Ytbhjljnbjomnhaa
open Go.RowKit
section
variable {P : Program} {C : Ctx} {E : Slots} {S : List Ent} {t e m g p n c ty : Nat} {x y : Operand} {v : Value}
theorem QS_sliceHigh [hs : SliceOf P t e m] {k : IntKind} {j : Nat} (hx : evo E x = some (.slice (some ⟨g, p, none⟩) n c)) (hy : evo E y = some (.int k (j : Nat))) (hj : j ≤ c) :
    QS P C E S (.slice t x none (some y) none) ty (.slice (some ⟨g, p, none⟩) j c) :=
  QS.of (fun a w ha _ => by
    have he : P.elem t = e := by simp [Program.elem, hs.und]
    have hu : P.underlying t = some (.slice (P.elem t)) := by rw [he]; exact hs.und
    have hr := run_slice_h (P := P) (w := w) t (some ⟨g, p, none⟩) n c hu k (j : Int) (by omega) (by omega)
    rw [he, hs.size w] at hr
    simp only [Result.andThen_ok, Int.toNat_natCast] at hr
    have hv : sliced (some ⟨g, p, none⟩) 0 j c m = .slice (some ⟨g, p, none⟩) j c := by
      unfold sliced
      split <;> simp [add_mk]
    rw [hv] at hr
    simp [execOp, ha.evo hx, ha.evo hy, run_sliceAt_slice (P := P) (w := w) t _ _ _ _ hu, hr])
end
end Go.Proofs.Ytbhjljnbjomnhaa

namespace Go.Proofs.Ytbhjljnbjomnhaa
open Go.RowKit
theorem flat_setW {α : Type} {enc : α → List Value} {M : Nat} (hM : ∀ x, (enc x).length = M) (xx : α) : ∀ (ls : List α) (j : Nat), j < ls.length →
    (ls.set j xx).flatMap enc = (ls.flatMap enc).take (j * M) ++ enc xx ++ (ls.flatMap enc).drop (j * M + M)
  | [], _, h => by simp at h
  | x :: ls, 0, _ => by
    simp only [List.set_cons_zero, List.flatMap_cons, Nat.zero_mul, List.take_zero, List.nil_append, Nat.zero_add]
    rw [List.drop_append, List.drop_eq_nil_of_le (by rw [hM]; exact Nat.le_refl _), hM, Nat.sub_self]
    simp
  | x :: ls, j + 1, h => by
    have ih := flat_setW hM xx ls j (by simpa using h)
    have e : (j + 1) * M = M + j * M := by rw [Nat.succ_mul]; omega
    simp only [List.set_cons_succ, List.flatMap_cons, ih, e]
    have t1 : List.take (M + j * M) (enc x ++ ls.flatMap enc) = enc x ++ (ls.flatMap enc).take (j * M) := by
      rw [List.take_append, List.take_of_length_le (l := enc x) (by rw [hM]; omega), hM, show M + j * M - M = j * M by omega]
    have t2 : List.drop (M + j * M + M) (enc x ++ ls.flatMap enc) = (ls.flatMap enc).drop (j * M + M) := by
      rw [List.drop_append, List.drop_of_length_le (l := enc x) (by rw [hM]; omega), hM, show M + j * M + M - M = j * M + M by omega, List.nil_append]
    rw [t1, t2]
    simp
section
variable {P : Program} {C : Ctx} {E : Slots} {S S' : List Ent} {ty s g c M e j : Nat} {ps : String} {af : Array Edge} {g0 : Option (Nat × Bool)} {x y : Operand} {α : Type} {enc : α → List Value} {ls : List α}
theorem ES_storeOwnAgg [hs : AggOf P s M] {xx : α} {us : List Value} (hx : evo E x = some (.pointer (some ⟨g, j * M, none⟩))) (hy : evo E y = some (.agg us.toArray)) (he : us = enc xx)
    (hu : Upd S (entOwn enc M e (some ⟨g, 0, none⟩) c ls) (entOwn enc M e (some ⟨g, 0, none⟩) c (ls.set j xx)) S') (hM : ∀ x, (enc x).length = M) (hj : j < ls.length) (h1 : (enc xx).all (·.oneCell') = true) :
    ES P C E S ⟨none, .store s x y, ty, ps, af, g0⟩ (fun E' T => E' = E ∧ T = S') := by
  subst he
  refine (ES_skip (fun T => T = S') (fun a w ha hw => ?_)).weak (by rintro _ _ ⟨rfl, rfl⟩; exact ⟨rfl, rfl⟩)
  have ho : Own enc M e w 0 (.slice (some ⟨g, 0, none⟩) ls.length c) ls := (hw.holds _ hu.mem).1
  obtain ⟨g', cap, cur, hv, hbb, hg, hnc, hcm, hcs, htake⟩ := ho.2.resolve_left (by simp)
  simp only [Value.slice.injEq, Option.some.injEq, Addr.mk.injEq, and_true, true_and] at hv
  obtain ⟨rfl, rfl⟩ := hv
  have hjM : j * M + M ≤ ls.length * M := by rw [← Nat.succ_mul]; exact Nat.mul_le_mul_right _ hj
  have hnM : ls.length * M ≤ c * M := Nat.mul_le_mul_right _ hnc
  have hfit : j * M + (enc xx).length ≤ cur.size := by rw [hM, hcs]; omega
  have hst := run_storeCells_at P g (j * M) e (enc xx) 0 cur w hg (by simpa using hfit) (fun u hu => List.all_eq_true.1 h1 u hu)
  simp only [Nat.add_zero] at hst
  have hcl : (cur.toList.take (j * M) ++ enc xx ++ cur.toList.drop (j * M + (enc xx).length)).length = cur.size := by
    simp only [List.length_append, List.length_take, List.length_drop, Array.length_toList]; omega
  refine ⟨w.setRow g (cur.toList.take (j * M) ++ enc xx ++ cur.toList.drop (j * M + (enc xx).length)).toArray, S', ?_, ?_, rfl⟩
  · have hsz : (Value.agg (enc xx).toArray).cells.size = M := by simp [Value.cells, hM]
    simp only [execOp, ha.evo hx, ha.evo hy, Instr.storeAt, Instr.sureAddr, storeVar, Sem.run_bind, Sem.run_pure, Result.andThen_ok, hs.size w, hsz]
    simp [Value.cells, hst]
  · refine hw.upd hu (Keeps.setRow w g _) (by simp [entOwn, Value.ownBlock]) (fun k hk => ?_) ?_
    · have hk' : some g = some k := hk
      cases hk'
      exact ⟨by simpa using (Array.getElem?_eq_some_iff.1 hg).1, .inl rfl⟩
    · show Own enc M e _ 0 (.slice (some ⟨g, 0, none⟩) (ls.set j xx).length c) (ls.set j xx)
      refine ⟨flat_len hM _, .inr ⟨g, c, _, rfl, Nat.zero_le _, setRow_heap w g cur _ e _ hg, by simpa using hnc, hcm, ?_, ?_⟩⟩
      · simp only [List.size_toArray]; rw [hcl, hcs]
      · rw [flat_setW hM xx ls j hj]
        simp only [List.length_set]
        rw [← htake, hM]
        have l1 : (cur.toList.take (j * M)).length = j * M := by rw [List.length_take, Array.length_toList, hcs]; omega
        have l2 : (cur.toList.take (j * M) ++ enc xx).length = j * M + M := by rw [List.length_append, l1, hM]
        rw [List.take_append, List.take_of_length_le (by rw [l2]; omega), l2, List.take_take, Nat.min_eq_left (by omega), List.drop_take]
theorem QS_indexVal {cs : Array Value} {n e j : Nat} {k : IntKind} {v : Value} [hs : ArrayOf P s n e 1] [h1 : OneCell P e] (hx : evo E x = some (.agg cs)) (hy : evo E y = some (.int k (j : Nat))) (hj : j < n) (hv : nthV cs.toList j = some v) : QS P C E S (.index s x y) ty v :=
  QS.of (fun a w ha _ => by
    have hr : (Instr.index s (.agg cs) (.int k (j : Nat))).run P w = .ok v w := by
      unfold Instr.index
      have h0 : (asIntOf (.int k (j : Nat))).run P w = .ok (k, (j : Int)) w := rfl
      have hj' : 0 ≤ (j : Int) ∧ (j : Int) < (n : Int) := by omega
      have hc : cs[j]? = some v := by rw [← hv, ← nthV_eq]; simp
      simp only [Sem.run_bind, h0, Result.andThen_ok, run_underlying hs.und, if_pos hj', hs.size w, Int.toNat_natCast, Nat.mul_one, part, h1.agg w]
      simp [hc]
    simp [execOp, ha.evo hx, ha.evo hy, hr])
theorem ES_makeSliceL {t d bytes n : Nat} {z : Value} {k k' : IntKind} {z0 : α} {zz : Int} [hs : SliceOf P t e M] [hi : InfoOf P e z M bytes] (hx : evo E x = some (.int k zz)) (hy : evo E y = some (.int k' zz)) (hn : IntLit zz n) (hz : z.cells.toList = enc z0)
    (hb : n * bytes ≤ 140737488355328) (hb0 : 0 < bytes) (hd : Nat.ble (d + 1) C.n = true) :
    ES P C E S ⟨some d, .makeSlice t x y, ty, ps, af, g0⟩ (fun E' T => ∃ g, E' = (d, .slice (some ⟨g, 0, none⟩) n n) :: E ∧ T = entOwn enc M e (some ⟨g, 0, none⟩) n (List.replicate n z0) :: S) :=
  ES_makeSlice (by rw [hx, hn.eq]) (by rw [hy, hn.eq]) hz hb hb0 hd
end
end Go.Proofs.Ytbhjljnbjomnhaa

namespace Go.Proofs.Ytbhjljnbjomnhaa
open Go.RowKit

/-- a header: where a row lies -/
structure Hd where
  a : Option Addr
  n : Nat
  c : Nat
def Hd.v (h : Hd) : Value := .slice h.a h.n h.c
def hdEnc (h : Hd) : List Value := [.slice h.a h.n h.c]
inductive All2 {α β : Type} (R : α → β → Prop) : List α → List β → Prop
  | nil : All2 R [] []
  | cons {a : α} {b : β} {l : List α} {m : List β} (h : R a b) (t : All2 R l m) : All2 R (a :: l) (b :: m)
/-- the rows, each of its own -/
def Inner {α : Type} (enc : α → List Value) (M e : Nat) (w : World) (hs : List Hd) (rows : List (List α)) : Prop :=
  All2 (fun h l => h.n = l.length ∧ Own enc M e w 0 h.v l) hs rows ∧ hs.Pairwise fun h g => ∀ k, h.v.ownBlock = some k → g.v.ownBlock ≠ some k
theorem Own.same {α : Type} {enc : α → List Value} {M e : Nat} {w w' : World} {v : Value} {l : List α} (h : ∀ g, v.ownBlock = some g → w'.heap[g]? = w.heap[g]?) (hp : Own enc M e w 0 v l) : Own enc M e w' 0 v l := by
  refine ⟨hp.1, ?_⟩
  rcases hp.2 with hn | ⟨g, cap, cur, hv, hbb, hg, rest⟩
  · exact .inl hn
  · refine .inr ⟨g, cap, cur, hv, hbb, (h g ?_).trans hg, rest⟩
    rw [hv]; rfl
theorem forall2_mono {α β : Type} {R R' : α → β → Prop} : ∀ {l : List α} {m : List β}, All2 R l m → (∀ a ∈ l, ∀ b, R a b → R' a b) → All2 R' l m
  | _, _, .nil, _ => .nil
  | _, _, .cons h t, f => .cons (f _ List.mem_cons_self _ h) (forall2_mono t fun a ha b => f a (List.mem_cons_of_mem _ ha) b)
theorem forall2_append {α β : Type} {R : α → β → Prop} {a : α} {b : β} (h : R a b) : ∀ {l : List α} {m : List β}, All2 R l m → All2 R (l ++ [a]) (m ++ [b])
  | _, _, .nil => .cons h .nil
  | _, _, .cons h' t => .cons h' (forall2_append h t)
theorem forall2_len {α β : Type} {R : α → β → Prop} : ∀ {l : List α} {m : List β}, All2 R l m → l.length = m.length
  | _, _, .nil => rfl
  | _, _, .cons _ t => by simp [forall2_len t]
theorem forall2_at {α β : Type} {R : α → β → Prop} : ∀ {l : List α} {m : List β}, All2 R l m → ∀ i (h1 : i < l.length) (h2 : i < m.length), R l[i] m[i]
  | _, _, .nil, _, h, _ => by simp at h
  | _, _, .cons h' _, 0, _, _ => h'
  | _, _, .cons _ t, i + 1, h1, h2 => forall2_at t i (by simpa using h1) (by simpa using h2)
def entInner {α : Type} (enc : α → List Value) (M e : Nat) (hs : List Hd) (rows : List (List α)) : Ent :=
  ⟨fun k => ∃ h ∈ hs, h.v.ownBlock = some k, hs.filterMap fun h => h.v.ownBlock, fun k => by simp [List.mem_filterMap], fun w => Inner enc M e w hs rows, fun w w' h hp =>
    ⟨forall2_mono hp.1 fun a ha b hab => ⟨hab.1, hab.2.same fun g hg => h g ⟨a, ha, hg⟩⟩, hp.2⟩⟩
section
variable {C : Ctx} {w w' : World} {S S1 S' : List Ent} {α : Type} {enc : α → List Value} {M e : Nat} {hs : List Hd} {rows : List (List α)} {l : List α} {A : Option Addr} {c : Nat}
theorem Mem.nilInner (enc : α → List Value) (M e : Nat) (h : Mem C w S) : Mem C w (entInner enc M e [] [] :: S) :=
  h.fresh (e := entInner enc M e [] []) (Below.refl _ _) (fun g hg => by obtain ⟨a, ha, _⟩ := hg; simp at ha) ⟨.nil, .nil⟩
/-- a row more -/
theorem Mem.absorb (hp : Pick S (entOwn enc M e A c l) S1) (hu : Upd S1 (entInner enc M e hs rows) (entInner enc M e (hs ++ [⟨A, l.length, c⟩]) (rows ++ [l])) S') (hw : Mem C w S) : Mem C w S' := by
  have h1 := hw.pick hp
  obtain ⟨X, Y, rfl, rfl⟩ := hu.form
  have hap := List.pairwise_cons.1 h1.apart
  have hap2 := hap.2
  rw [List.pairwise_append, List.pairwise_cons] at hap2
  obtain ⟨hX, ⟨hY1, hY⟩, hXY⟩ := hap2
  have ho := h1.holds _ List.mem_cons_self
  have hin := h1.holds (entInner enc M e hs rows) (by simp)
  have hfar : ∀ k, (∃ h ∈ hs, h.v.ownBlock = some k) → (Value.slice A l.length c).ownBlock ≠ some k := fun k hk hk' => hap.1 (entInner enc M e hs rows) (by simp) k hk' hk
  have hhas : ∀ k, (entInner enc M e (hs ++ [⟨A, l.length, c⟩]) (rows ++ [l])).has k → (entInner enc M e hs rows).has k ∨ (entOwn enc M e A c l).has k := by
    rintro k ⟨h, hm, hk⟩
    rcases List.mem_append.1 hm with hm | hm
    · exact .inl ⟨h, hm, hk⟩
    · obtain rfl : h = ⟨A, l.length, c⟩ := by simpa using hm
      exact .inr hk
  refine ⟨h1.keeps, fun f hf => ?_, ?_⟩
  · rcases List.mem_append.1 hf with hf | hf
    · exact h1.holds f (by simp [hf])
    · rcases List.mem_cons.1 hf with rfl | hf
      · refine ⟨⟨forall2_append ⟨rfl, ho.1⟩ hin.1.1, ?_⟩, fun k hk => ?_⟩
        · rw [List.pairwise_append]
          refine ⟨hin.1.2, List.pairwise_singleton _ _, fun h hh g hg k hk => ?_⟩
          obtain rfl : g = ⟨A, l.length, c⟩ := by simpa using hg
          exact hfar k ⟨h, hh, hk⟩
        · rcases hhas k hk with h | h
          · exact hin.2 k h
          · exact ho.2 k h
      · exact h1.holds f (by simp [hf])
  · rw [List.pairwise_append, List.pairwise_cons]
    refine ⟨hX, ⟨fun f hf k hk => ?_, hY⟩, fun f hf g hg k hk => ?_⟩
    · rcases hhas k hk with h | h
      · exact hY1 f hf k h
      · exact hap.1 f (by simp [hf]) k h
    · rcases List.mem_cons.1 hg with rfl | hg
      · intro hk'
        rcases hhas k hk' with h | h
        · exact hXY f hf _ List.mem_cons_self k hk h
        · exact hap.1 f (by simp [hf]) k h hk
      · exact hXY f hf g (by simp [hg]) k hk
theorem Mem.innerRd (hw : Mem C w S) (hm : entInner enc M e hs rows ∈ S) (hM : ∀ x, (enc x).length = M) {j : Nat} (h1 : j < hs.length) (h2 : j < rows.length) : hs[j].n = rows[j].length ∧ RdE enc M w hs[j].a rows[j] := by
  have hp : Inner enc M e w hs rows := (hw.holds _ hm).1
  obtain ⟨hn, ho⟩ := forall2_at hp.1 j h1 h2
  refine ⟨hn, ?_⟩
  obtain ⟨A', c', hv, hr⟩ := Own.rd ho hM
  unfold Hd.v at hv
  simp only [Value.slice.injEq] at hv
  rw [hv.1]; exact hr
theorem Mem.innerLen (hw : Mem C w S) (hm : entInner enc M e hs rows ∈ S) : hs.length = rows.length := by
  have hp : Inner enc M e w hs rows := (hw.holds _ hm).1
  exact forall2_len hp.1
theorem T_innerLen {P : Program} {Q : Exit → Act → World → Prop} {E : Slots} {code : Code} (hm : entInner enc M e hs rows ∈ S) (h : hs.length = rows.length → T P C code Q E S) : T P C code Q E S :=
  ⟨fun a w ha hw => (h (hw.innerLen hm)).run a w ha hw⟩
/-- a list of lists that the caller takes: its own, both the headers and the rows -/
def OwnRows (enc : α → List Value) (M e e2 : Nat) (w : World) (B : Nat) (A : Option Addr) (c : Nat) (hs : List Hd) (rows : List (List α)) : Prop :=
  Own hdEnc 1 e2 w 0 (.slice A hs.length c) hs ∧ Inner enc M e w hs rows ∧ (∀ k, ((Value.slice A hs.length c).ownBlock = some k ∨ ∃ h ∈ hs, h.v.ownBlock = some k) → B ≤ k ∧ k < w.heap.size) ∧ ∀ k, (Value.slice A hs.length c).ownBlock = some k → ¬ ∃ h ∈ hs, h.v.ownBlock = some k
theorem Mem.rowsOut {e2 : Nat} (hw : Mem C w S) (hF : C.F = []) (hs2 : [entOwn hdEnc 1 e2 A c hs, entInner enc M e hs rows].Sublist S) : OwnRows enc M e e2 w C.w0.heap.size A c hs rows := by
  have hw' := hw.sub hs2
  have h1 := hw'.holds _ List.mem_cons_self
  have h2 := hw'.holds (entInner enc M e hs rows) (by simp)
  have h3 := (List.pairwise_cons.1 hw'.apart).1 (entInner enc M e hs rows) (by simp)
  refine ⟨h1.1, h2.1, fun k hk => ?_, fun k hk hk' => h3 k hk hk'⟩
  rcases hk with hk | hk
  · have := h1.2 k hk
    rw [hF] at this
    exact ⟨this.2.resolve_left (by simp), this.1⟩
  · have := h2.2 k hk
    rw [hF] at this
    exact ⟨this.2.resolve_left (by simp), this.1⟩
theorem Mem.rowsIn {e2 : Nat} (hw : Mem C w S) (hb : Below w.heap.size w w') (h : OwnRows enc M e e2 w' w.heap.size A c hs rows) : Mem C w' (entOwn hdEnc 1 e2 A c hs :: entInner enc M e hs rows :: S) := by
  have h1 : Mem C w' (entInner enc M e hs rows :: S) := hw.fresh hb (fun g hg => h.2.2.1 g (.inr hg)) h.2.1
  refine ⟨h1.keeps, fun f hf => ?_, ?_⟩
  · rcases List.mem_cons.1 hf with rfl | hf
    · refine ⟨h.1, fun g hg => ?_⟩
      have := h.2.2.1 g (.inl hg)
      exact ⟨this.2, .inr (Nat.le_trans hw.keeps.size this.1)⟩
    · exact h1.holds f hf
  · refine List.pairwise_cons.2 ⟨fun f hf k hk => ?_, h1.apart⟩
    rcases List.mem_cons.1 hf with rfl | hf
    · exact h.2.2.2 k hk
    · intro hk'
      have q1 := (h.2.2.1 k (.inl hk)).1
      have q2 := ((hw.holds f hf).2 k hk').1
      omega
end
section
variable {P : Program} {C : Ctx} {E : Slots} {S : List Ent} {f d ty : Nat} {ps : String} {af : Array Edge} {g0 : Option (Nat × Bool)} {α : Type} {enc : α → List Value} {M e e2 : Nat} {rows : List (List α)}
def HdOf (hs : List Hd) (rows : List (List α)) : Prop := hs.length = rows.length ∧ ∀ j (h1 : j < hs.length) (h2 : j < rows.length), hs[j].n = rows[j].length
theorem OwnRows.hd {w : World} {B : Nat} {A : Option Addr} {c : Nat} {hs : List Hd} (h : OwnRows enc M e e2 w B A c hs rows) : HdOf hs rows :=
  ⟨forall2_len h.2.1.1, fun j h1 h2 => (forall2_at h.2.1.1 j h1 h2).1⟩
/-- a call that hands back a list of lists that it made -/
theorem ES_callRows [hf : IsFn P f] {xs : List Operand} {vs : List Value} {ats : Array TypeId} {r : Option Addr → Nat → List Hd → Value} (hx : evs E xs = some vs)
    (hc : ∀ w, Mem C w S → Calls P f vs.toArray w fun x w' => ∃ A c hs, x = .returned (r A c hs) ∧ OwnRows enc M e e2 w' w.heap.size A c hs rows ∧ Below w.heap.size w w') (hd : Nat.ble (d + 1) C.n = true) :
    ES P C E S ⟨some d, .call ⟨.value (.func f), xs.toArray, ats⟩, ty, ps, af, g0⟩ (fun E' S' => ∃ A c hs, HdOf hs rows ∧ E' = (d, r A c hs) :: E ∧ S' = entOwn hdEnc 1 e2 A c hs :: entInner enc M e hs rows :: S) :=
  (ES_call (fun u T => ∃ A c hs, HdOf hs rows ∧ u = r A c hs ∧ T = entOwn hdEnc 1 e2 A c hs :: entInner enc M e hs rows :: S) hx (fun w hw => (hc w hw).mono fun e w' ⟨A, c, hs, he, ho, hb⟩ => ⟨_, _, he, hw.rowsIn hb ho, A, c, hs, ho.hd, rfl, rfl⟩) hd).weak
    (by rintro _ _ ⟨_, ⟨A, c, hs, hh, rfl, rfl⟩, rfl⟩; exact ⟨A, c, hs, hh, rfl, rfl⟩)
/-- the whole of an array that lies in memory -/
theorem QS_sliceArr {t n e m g o : Nat} {x : Operand} [hs : ArrayOf P t n e m] (hx : evo E x = some (.pointer (some ⟨g, o, none⟩))) : QS P C E S (.slice t x none none none) ty (.slice (some ⟨g, o, none⟩) n n) :=
  QS.of (fun a w ha _ => by
    have he : P.elem t = e := by simp [Program.elem, hs.und]
    have hn : P.arrayLen t = n := by simp [Program.arrayLen, hs.und]
    have hr := run_sliceAt_array_all (P := P) w t ⟨g, o, none⟩ (by rw [he, hn]; exact hs.und)
    rw [he, hn, hs.size w] at hr
    have hv : slicedAt ⟨g, o, none⟩ 0 n n m = .slice (some ⟨g, o, none⟩) n n := by
      unfold slicedAt
      split <;> simp [add_mk]
    simp only [Result.andThen_ok, hv] at hr
    simp [execOp, ha.evo hx, hr])
end
end Go.Proofs.Ytbhjljnbjomnhaa

namespace Go.Proofs.Ytbhjljnbjomnhaa
open Go.RowKit

/-- a map and a range over it: which of its items it has been at -/
def MapIt {α : Type} (enc : α → Value) (w : World) (m g : Nat) (D : List (Int × α)) (V : List Nat) : Prop :=
  m ≠ g ∧ ∃ es cl since, w.heap[m]? = some (.map es cl) ∧ es.toList.map (fun e => (e.key, e.val)) = rowOfMap enc D ∧ BornOk es cl ∧ since ≤ cl ∧ (∀ x ∈ es.toList, x.born < since) ∧
    (∃ seen, w.heap[g]? = some (.mapIter (some m) since seen cl) ∧ seen.toList.map some = V.map fun i => es.toList[i]?.map (·.born)) ∧ ∀ i ∈ V, i < D.length
def entMapIt {α : Type} (enc : α → Value) (m g : Nat) (D : List (Int × α)) (V : List Nat) : Ent :=
  ⟨fun k => k = m ∨ k = g, [m, g], fun k => by simp, fun w => MapIt enc w m g D V, fun w w' h hp => by
    obtain ⟨h0, es, cl, since, h1, h2, h3, h4, h5, ⟨seen, h6, h7⟩, h8⟩ := hp
    exact ⟨h0, es, cl, since, (h m (.inl rfl)).trans h1, h2, h3, h4, h5, ⟨seen, (h g (.inr rfl)).trans h6, h7⟩, h8⟩⟩
section
variable {P : Program} {C : Ctx} {E : Slots} {S S' : List Ent} {w : World}
variable {d ty : Nat} {ps : String} {af : Array Edge} {g0 : Option (Nat × Bool)} {x y : Operand} {t k e m g : Nat} {α : Type} {enc : α → Value} {D : List (Int × α)} {V : List Nat} {n : Int}
theorem ES_range [hm : MapOf P t k e] (enc : α → Value) (D : List (Int × α)) {T' : Nat → List Ent} (hx : evo E x = some (.map (some m))) (hu : ∀ g, Upd S (entMap enc m D) (entMapIt enc m g D []) (T' g)) (hd : Nat.ble (d + 1) C.n = true) :
    ES P C E S ⟨some d, .range t x, ty, ps, af, g0⟩ (fun E' T => ∃ g, E' = (d, .pointer (some ⟨g, 0, none⟩)) :: E ∧ T = T' g) := by
  refine (ES_core (fun u T => ∃ g, u = .pointer (some ⟨g, 0, none⟩) ∧ T = T' g) (fun a w ha hw => ?_) hd).weak (by rintro _ _ ⟨_, ⟨g, rfl, rfl⟩, rfl⟩; exact ⟨g, rfl, rfl⟩)
  obtain ⟨es, cl, hg, hes, hbo⟩ := (hw.holds _ (hu 0).mem).1
  have hlt : m < w.heap.size := (Array.getElem?_eq_some_iff.1 hg).1
  have hr := run_range_map (P := P) w t k e m es cl hm.und hg
  refine ⟨_, w.alloc (.mapIter (some m) cl #[] cl), T' w.heap.size, by simp [execOp, ha.evo hx, hr], ?_, _, rfl, rfl⟩
  refine hw.upd (hu w.heap.size) (F := []) (Keeps.of_below (bel_alloc (Below.refl _ _) _)) (by simp) (fun j hj => ?_) ?_
  · have hj' : j = m ∨ j = w.heap.size := hj
    rcases hj' with rfl | rfl
    · exact ⟨by simp; omega, .inl rfl⟩
    · exact ⟨by simp, .inr (Nat.le_refl _)⟩
  · refine ⟨by omega, es, cl, cl, (heap_alloc_old w _ hlt).trans hg, hes, hbo, Nat.le_refl _, hbo.2, ⟨#[], heap_alloc_new w _, by simp⟩, by simp⟩
/-- the value of an item -/
def itV (enc : α → Value) (p : Int × α) : List Value := [.bool true, .int .i64 p.1, enc p.2]
theorem getElem_of_map {es : List MapEntry} {D : List (Int × α)} (h : es.map (fun e => (e.key, e.val)) = rowOfMap enc D) : es.length = D.length ∧ ∀ i (h1 : i < es.length) (h2 : i < D.length), es[i].key = .int .i64 D[i].1 ∧ es[i].val = enc D[i].2 := by
  have hl : es.length = D.length := by simpa [rowOfMap] using congrArg List.length h
  refine ⟨hl, fun i h1 h2 => ?_⟩
  have := congrArg (·[i]?) h
  simp only [rowOfMap, List.getElem?_map, List.getElem?_eq_getElem h1, List.getElem?_eq_getElem h2, Option.map_some, Option.some.injEq, Prod.mk.injEq] at this
  exact this
theorem nodup_idx {l : List Nat} (hn : l.Nodup) {i j : Nat} (hi : i < l.length) (hj : j < l.length) (h : l[i] = l[j]) : i = j := by
  rcases Nat.lt_trichotomy i j with h1 | h1 | h1
  · exact absurd h (List.pairwise_iff_getElem.1 hn i j hi hj h1)
  · exact h1
  · exact absurd h.symm (List.pairwise_iff_getElem.1 hn j i hj hi h1)
/-- the next item, or the end -/
theorem ES_next {T' : Nat → List Ent} (hx : evo E x = some (.pointer (some ⟨g, 0, none⟩))) (hu : ∀ i, Upd S (entMapIt enc m g D V) (entMapIt enc m g D (V ++ [i])) (T' i)) (hd : Nat.ble (d + 1) C.n = true) :
    ES P C E S ⟨some d, .next x false, ty, ps, af, g0⟩ (fun E' T => (E' = (d, .tuple #[.bool false]) :: E ∧ T = S ∧ ∀ i, i < D.length → i ∈ V) ∨
      ∃ i, ∃ h : i < D.length, i ∉ V ∧ E' = (d, .tuple (itV enc D[i]).toArray) :: E ∧ T = T' i) := by
  refine (ES_core (fun u T => (u = .tuple #[.bool false] ∧ T = S ∧ ∀ i, i < D.length → i ∈ V) ∨ ∃ i, ∃ h : i < D.length, i ∉ V ∧ u = .tuple (itV enc D[i]).toArray ∧ T = T' i) (fun a w ha hw => ?_) hd).weak ?_
  rotate_left
  · rintro _ _ ⟨_, h, rfl⟩
    rcases h with ⟨rfl, rfl, h⟩ | ⟨i, hi, hn, rfl, rfl⟩
    · exact .inl ⟨rfl, rfl, h⟩
    · exact .inr ⟨i, hi, hn, rfl, rfl⟩
  · obtain ⟨hne, es, cl, since, h1, h2, h3, h4, h5, ⟨seen, h6, h7⟩, h8⟩ := (hw.holds _ (hu 0).mem).1
    obtain ⟨hlen, hat⟩ := getElem_of_map h2
    have hltg : g < w.heap.size := (Array.getElem?_eq_some_iff.1 h6).1
    have hltm : m < w.heap.size := (Array.getElem?_eq_some_iff.1 h1).1
    have hseen : ∀ i (hi : i < es.toList.length), es.toList[i].born ∈ seen.toList ↔ i ∈ V := by
      intro i hi
      constructor
      · intro h
        have : some es.toList[i].born ∈ seen.toList.map some := List.mem_map.2 ⟨_, h, rfl⟩
        rw [h7, List.mem_map] at this
        obtain ⟨j, hj, he⟩ := this
        have hjl := h8 j hj
        rw [List.getElem?_eq_getElem (by omega)] at he
        simp only [Option.map_some, Option.some.injEq] at he
        have hn := h3.1
        have : j = i := by
          refine nodup_idx hn (by simp; simp at hlen; omega) (by simpa using hi) ?_
          simp only [List.getElem_map]
          exact he
        rw [← this]; exact hj
      · intro h
        have : (es.toList[i]?.map (·.born)) ∈ V.map fun i => es.toList[i]?.map (·.born) := List.mem_map.2 ⟨i, h, rfl⟩
        rw [← h7, List.getElem?_eq_getElem hi, List.mem_map] at this
        obtain ⟨b, hb, he⟩ := this
        simp only [Option.map_some, Option.some.injEq] at he
        rw [← he]; exact hb
    have hgo : (getObj g).run P w = .ok (.mapIter (some m) since seen cl) w := by simp [getObj, Sem.run, h6]
    have hgm : (getObj m).run P w = .ok (.map es cl) w := by simp [getObj, Sem.run, h1]
    have htest := next_test_false seen es since cl h5 h4
    have hmem : ∀ x ∈ (Array.filter (fun e : MapEntry => !seen.contains e.born) es).toList, x ∈ es.toList ∧ x.born ∉ seen.toList := fun x hx => by
      simp at hx
      exact ⟨by simpa using hx.1, by simpa using hx.2⟩
    have hmem2 : ∀ x ∈ es.toList, x.born ∉ seen.toList → x ∈ (Array.filter (fun e : MapEntry => !seen.contains e.born) es).toList := fun x hx hn => by
      simp; exact ⟨by simpa using hx, by simpa using hn⟩
    have e1 : (Array.filter (fun e : MapEntry => !seen.contains e.born) es).filter (fun x => decide (x.born < since)) = Array.filter (fun e : MapEntry => !seen.contains e.born) es := Array.filter_eq_self.2 (fun x hx => by simpa using h5 x (hmem x (by simpa using hx)).1)
    have e2 : (Array.filter (fun e : MapEntry => !seen.contains e.born) es).filter (fun x => decide (x.born ≥ since)) = #[] := by
      rw [Array.filter_eq_empty_iff]
      intro x hx
      have := h5 x (hmem x (by simpa using hx)).1
      simp; omega
    have hrun : ∀ v w', (Instr.next (.pointer (some ⟨g, 0, none⟩)) false ty).run P w = .ok v w' → (execOp a.eval ⟨some d, .next x false, ty, ps, af, g0⟩).run P w = .ok (.value v) w' := fun v w' h => by
      simp [execOp, ha.evo hx, h]
    have hunf : (Instr.next (.pointer (some ⟨g, 0, none⟩)) false ty).run P w = ((do
        match ((if (Array.filter (fun e : MapEntry => !seen.contains e.born) es).isEmpty then #[none] else #[]) ++ ((Array.filter (fun e : MapEntry => !seen.contains e.born) es).map some))[← choose (.mapNext ((if (Array.filter (fun e : MapEntry => !seen.contains e.born) es).isEmpty then #[none] else #[]) ++ ((Array.filter (fun e : MapEntry => !seen.contains e.born) es).map some)).size)]? with
        | some (some e) =>
          setObj g (.mapIter (some m) since (seen.push e.born) cl)
          pure (.tuple #[.bool true, e.key, e.val])
        | some none => pure (.tuple #[.bool false])
        | none => stuck "Next: no such candidate") : Sem Value).run P w := by
      simp only [Instr.next, Sem.run_bind, hgo, hgm, Result.andThen_ok, htest, Bool.false_eq_true, if_false, e1, e2, Array.append_empty]
      rfl
    generalize hL : Array.filter (fun e : MapEntry => !seen.contains e.born) es = L at *
    by_cases h0 : L.size = 0
    · have hLe : L = #[] := Array.eq_empty_of_size_eq_zero h0
      refine ⟨_, w, S, hrun _ _ (hunf.trans ?_), hw, .inl ⟨rfl, rfl, fun i hi => ?_⟩⟩
      · subst hLe
        simp [choose, Sem.run, Question.forced]
      · by_cases hv : i ∈ V
        · exact hv
        · have hie : i < es.toList.length := by omega
          have := hmem2 es.toList[i] (List.getElem_mem _) (fun h => hv ((hseen i hie).1 h))
          rw [hLe] at this
          simp at this
    · have hne0 : L.isEmpty = false := by simp [Array.isEmpty, h0]
      rw [hne0] at hunf
      simp only [Bool.false_eq_true, if_false, Array.empty_append, Array.size_map] at hunf
      have hch : ∃ (j : Nat) (k : Nat), j < L.size ∧ (choose (Question.mapNext L.size)).run P w = .ok j (w.drewN k) := by
        by_cases hf : L.size ≤ 1
        · exact ⟨0, 0, by omega, by simp [choose, Sem.run, Question.forced, hf, World.drewN]⟩
        · refine ⟨w.tape w.drawn (Question.mapNext L.size) % L.size, 1, Nat.mod_lt _ (by omega), ?_⟩
          simp only [choose, Sem.run, Question.forced, decide_eq_true_eq, hf, if_false, Question.cut]
          rfl
      obtain ⟨j, q, hj, hrc⟩ := hch
      have hLj := hmem L[j] (by simp)
      obtain ⟨i, hi, hie⟩ := List.mem_iff_getElem.1 hLj.1
      have hiD : i < D.length := by omega
      obtain ⟨hk, hv⟩ := hat i hi hiD
      have hiV : i ∉ V := fun h => hLj.2 (by rw [← hie]; exact (hseen i hi).2 h)
      have hh : ∀ r : Nat, (w.drewN q).heap[r]? = w.heap[r]? := fun r => by cases q <;> rfl
      have hset : (setObj g (.mapIter (some m) since (seen.push L[j].born) cl)).run P (w.drewN q) = .ok () { w.drewN q with heap := (w.drewN q).heap.setIfInBounds g (.mapIter (some m) since (seen.push L[j].born) cl) } := by simp [setObj, Sem.run, hh, h6]
      refine ⟨.tuple (itV enc D[i]).toArray, { w.drewN q with heap := (w.drewN q).heap.setIfInBounds g (.mapIter (some m) since (seen.push L[j].born) cl) }, T' i, hrun _ _ (hunf.trans ?_), ?_, .inr ⟨i, hiD, hiV, rfl, rfl⟩⟩
      · simp only [Sem.run_bind, hrc, Result.andThen_ok, Array.getElem?_map, Array.getElem?_eq_getElem hj, Option.map_some, hset, Sem.run_pure]
        rw [← hie, hk, hv]
        rfl
      · have hsz : (w.drewN q).heap.size = w.heap.size := by cases q <;> rfl
        have hk1 : Keeps [g] w { w.drewN q with heap := (w.drewN q).heap.setIfInBounds g (.mapIter (some m) since (seen.push L[j].born) cl) } := by
          have hbd := below_drewN' (Below.refl w.heap.size w) q
          refine ⟨hbd.os, hbd.tape, hbd.output, by simp [hsz], fun r hr hrn => ?_⟩
          simp only [List.mem_singleton] at hrn
          exact (Array.getElem?_setIfInBounds_ne (fun e => hrn e.symm)).trans (hh r)
        refine hw.upd (hu i) hk1 (by intro r hr; simp at hr; exact .inr hr) (fun r hr => ?_) ?_
        · have hr' : r = m ∨ r = g := hr
          exact ⟨by simp [hsz]; omega, .inl hr⟩
        · refine ⟨hne, es, cl, since, ?_, h2, h3, h4, h5, ⟨seen.push L[j].born, by simp [hsz, hltg], ?_⟩, fun i' hi' => ?_⟩
          · exact ((Array.getElem?_setIfInBounds_ne (fun e => hne e.symm)).trans (hh m)).trans h1
          · rw [Array.toList_push, List.map_append, h7, List.map_append, List.map_cons, List.map_nil, List.map_cons, List.map_nil, List.getElem?_eq_getElem hi, hie]; rfl
          · rcases List.mem_append.1 hi' with h | h
            · exact h8 i' h
            · simp at h; omega
/-- the item that the range is at -/
theorem QS_entry {i : Nat} (hi : i < D.length) (hx : evo E x = some (.pointer (some ⟨g, 0, none⟩))) (hm : entMapIt enc m g D (V ++ [i]) ∈ S) : QS P C E S (.entry x) ty (.tuple #[.int .i64 D[i].1, enc D[i].2]) :=
  QS.of (fun a w ha hw => by
    obtain ⟨hne, es, cl, since, h1, h2, h3, h4, h5, ⟨seen, h6, h7⟩, h8⟩ := (hw.holds _ hm).1
    obtain ⟨hlen, hat⟩ := getElem_of_map h2
    have hie : i < es.toList.length := by omega
    obtain ⟨hk, hv⟩ := hat i hie hi
    have hgo : (getObj g).run P w = .ok (.mapIter (some m) since seen cl) w := by simp [getObj, Sem.run, h6]
    have hgm : (getObj m).run P w = .ok (.map es cl) w := by simp [getObj, Sem.run, h1]
    have hback : seen.back? = some es.toList[i].born := by
      have h9 := congrArg List.getLast? h7
      rw [List.map_append, List.map_cons, List.map_nil, List.getLast?_concat, List.getElem?_eq_getElem hie, Option.map_some, List.getLast?_map] at h9
      rw [← Array.getLast?_toList]
      cases hs : seen.toList.getLast? with
      | none => rw [hs] at h9; simp at h9
      | some b => rw [hs] at h9; simp only [Option.map_some, Option.some.injEq] at h9; rw [h9]
    have hf : es.find? (·.born == es.toList[i].born) = some es.toList[i] := by rw [← Array.find?_toList]; exact find_born _ es.toList h3.1 (List.getElem_mem _)
    have hr : (Instr.entry (.pointer (some ⟨g, 0, none⟩))).run P w = .ok (.tuple #[.int .i64 D[i].1, enc D[i].2]) w := by
      simp only [Instr.entry, Sem.run_bind, hgo, hgm, Result.andThen_ok, hback, bne_self_eq_false, Bool.false_eq_true, if_false, hf, Sem.run_pure, hk, hv]
    simp [execOp, ha.evo hx, hr])
/-- any value looked up -/
theorem QS_lookG [hm : MapOf P t k e] {z : Value} [hz : ZeroOf P e z] {z0 : α} (hx : evo E x = some (.map (some g))) (hy : evo E y = some (.int .i64 n)) (hD : entMap enc g D ∈ S) (he : enc z0 = z) : QS P C E S (.lookup t x y false) ty (enc ((lookM D n).getD z0)) :=
  QS.of (fun a w ha hw => by
    have h := run_lookup (hm := hm) (n := n) (enc := enc) (z0 := z0) he (hw.holds _ hD).1 false
    simp only [execOp, ha.evo hx, ha.evo hy, Sem.run_bind, h, Result.andThen_ok]; rfl)
end
end Go.Proofs.Ytbhjljnbjomnhaa
