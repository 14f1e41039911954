/- Lemmas for the walks (E, S, W, Clr, Str, Mut1). No condition. -/
import Derived.Test.YtiimjppceobkfaaG04
import Derived.Laws.Strings
set_option linter.unusedSimpArgs false
set_option linter.unusedVariables false
set_option linter.unusedSectionVars false
set_option linter.unnecessarySimpa false
namespace Go.Proofs.Ytiimjppceobkfaa
open Go.RowKit

section
variable {P : Program} {C : Ctx} {E : Slots} {S : List Ent}
theorem Lds.auto {s : Nat} {ad : Addr} {v : Value} (h : Lds P C S s ad v := by first | exact Lds.blk (by first | ((repeat (first | with_reducible exact List.mem_cons_self | with_reducible apply List.mem_cons_of_mem)); done) | (repeat (first | exact List.Mem.head _ | apply List.Mem.tail))) (by first | exact relCells_nV _ _ | exact relCells_atV _ _ _ (by omega) | exact rfl) | exact Lds.whole (by first | ((repeat (first | with_reducible exact List.mem_cons_self | with_reducible apply List.mem_cons_of_mem)); done) | (repeat (first | exact List.Mem.head _ | apply List.Mem.tail))) (by first | rfl | exact relCells_size _ _) | exact Lds.rd1 (by assumption) (by first | assumption | (simp; done)) (by first | assumption | omega) rfl | exact Lds.rd0 (by assumption) (by first | assumption | (simp; done)) (by first | assumption | omega) rfl | exact Lds.rd (by assumption) (by first | assumption | (simp; done)) (by first | assumption | omega) rfl | exact Lds.rdAgg (by assumption) (by intro x; rfl) (by first | assumption | (simp; done)) (by first | assumption | omega) | exact Lds.own1 (by first | ((repeat (first | with_reducible exact List.mem_cons_self | with_reducible apply List.mem_cons_of_mem)); done) | (repeat (first | exact List.Mem.head _ | apply List.Mem.tail))) (by intro x; rfl) (by first | assumption | omega) rfl | exact Lds.own0 (by first | ((repeat (first | with_reducible exact List.mem_cons_self | with_reducible apply List.mem_cons_of_mem)); done) | (repeat (first | exact List.Mem.head _ | apply List.Mem.tail))) (by intro x; rfl) (by first | assumption | omega) rfl | exact Lds.own (by first | ((repeat (first | with_reducible exact List.mem_cons_self | with_reducible apply List.mem_cons_of_mem)); done) | (repeat (first | exact List.Mem.head _ | apply List.Mem.tail))) (by intro x; rfl) (by first | assumption | omega) rfl | exact Lds.ownAgg (by first | ((repeat (first | with_reducible exact List.mem_cons_self | with_reducible apply List.mem_cons_of_mem)); done) | (repeat (first | exact List.Mem.head _ | apply List.Mem.tail))) (by intro x; rfl) (by first | assumption | omega) | exact Lds.rdz (by assumption) (by first | assumption | (simp; done)) (by first | assumption | omega) rfl | fail) : Lds P C S s ad v := h
theorem QS.auto {op : Op} {ty : Nat} {v : Value} (h : QS P C E S op ty v := by first | ((with_reducible apply QS_addWW); exact rfl; exact rfl) | ((with_reducible apply QS_move); exact rfl) | ((with_reducible apply QS_assign); exact rfl) | ((with_reducible apply QS_field); exact rfl; (first | exact Nat.add_zero _ | exact Nat.zero_add _ | exact rfl)) | ((with_reducible apply QS_load); exact rfl; exact Lds.auto) | ((with_reducible apply QS_lss); exact rfl; exact rfl) | ((with_reducible apply QS_eql); exact rfl; exact rfl) | ((with_reducible apply QS_neq); exact rfl; exact rfl) | ((with_reducible apply QS_leq); exact rfl; exact rfl) | ((with_reducible apply QS_gtr); exact rfl; exact rfl) | ((with_reducible apply QS_geq); exact rfl; exact rfl) | ((with_reducible apply QS_not); exact rfl) | ((with_reducible apply QS_add); exact rfl; exact rfl; omega; omega) | ((with_reducible apply QS_sub); exact rfl; exact rfl; omega; omega) | ((with_reducible apply QS_mul); exact rfl; exact rfl; omega; omega) | ((with_reducible apply QS_len); exact rfl) | ((with_reducible apply QS_lenArray); exact rfl) | ((with_reducible apply QS_pick_true); exact rfl; (with_reducible exact rfl); exact rfl) | ((with_reducible apply QS_pick_false); exact rfl; (with_reducible exact rfl); exact rfl) | ((with_reducible apply QS_pick_bool); exact rfl; exact rfl; exact rfl) | ((with_reducible apply QS_pick); exact rfl; exact rfl; exact rfl) | ((with_reducible apply QS_index); exact rfl; exact rfl; omega; (first | exact off_z _ _ | exact off_01 _ | exact off_0m _ _ | exact off_o1 _ _ | exact rfl)) | ((with_reducible apply QS_indexA); exact rfl; exact rfl; omega; (first | exact off_z _ _ | exact off_01 _ | exact off_0m _ _ | exact off_o1 _ _ | exact rfl)) | ((with_reducible apply QS_indexL); exact rfl; exact rfl; exact inferInstance; omega; (first | exact off_z _ _ | exact off_01 _ | exact off_0m _ _ | exact off_o1 _ _ | exact rfl)) | ((with_reducible apply QS_indexAL); exact rfl; exact rfl; exact inferInstance; omega; (first | exact off_z _ _ | exact off_01 _ | exact off_0m _ _ | exact off_o1 _ _ | exact rfl)) | ((with_reducible apply QS_indexZ); exact rfl; exact rfl; omega; omega; (first | exact off_z _ _ | exact off_01 _ | exact off_0m _ _ | exact off_o1 _ _ | exact rfl)) | ((with_reducible apply QS_indexAZ); exact rfl; exact rfl; omega; omega; (first | exact off_z _ _ | exact off_01 _ | exact off_0m _ _ | exact off_o1 _ _ | exact rfl)) | ((with_reducible apply QS_extract); exact rfl; exact rfl) | ((with_reducible apply QS_nilCheck); exact rfl) | ((with_reducible apply QS_max); exact rfl; exact rfl) | ((with_reducible apply QS_min); exact rfl; exact rfl) | ((with_reducible apply QS_convert); exact rfl; omega; omega) | ((with_reducible apply QS_buildF); exact rfl; exact rfl; ((repeat (first | exact IsL.nil | apply IsL.cons | exact IsL.refl _)))) | ((with_reducible apply QS_shr16); exact rfl; exact rfl; (first | assumption | omega | decide | exact Nat.lt_of_le_of_lt (Nat.shiftRight_le _ _) (by first | assumption | omega) | (apply_assumption <;> omega))) | ((with_reducible apply QS_and16); exact rfl; exact rfl; (first | assumption | omega | decide | exact Nat.lt_of_le_of_lt (Nat.shiftRight_le _ _) (by first | assumption | omega) | (apply_assumption <;> omega)); (first | assumption | omega | decide | exact Nat.lt_of_le_of_lt (Nat.shiftRight_le _ _) (by first | assumption | omega) | (apply_assumption <;> omega))) | ((with_reducible apply QS_or16); exact rfl; exact rfl; (first | assumption | omega | decide | exact Nat.lt_of_le_of_lt (Nat.shiftRight_le _ _) (by first | assumption | omega) | (apply_assumption <;> omega)); (first | assumption | omega | decide | exact Nat.lt_of_le_of_lt (Nat.shiftRight_le _ _) (by first | assumption | omega) | (apply_assumption <;> omega))) | ((with_reducible apply QS_andNot16); exact rfl; exact rfl; (first | assumption | omega | decide | exact Nat.lt_of_le_of_lt (Nat.shiftRight_le _ _) (by first | assumption | omega) | (apply_assumption <;> omega)); (first | assumption | omega | decide | exact Nat.lt_of_le_of_lt (Nat.shiftRight_le _ _) (by first | assumption | omega) | (apply_assumption <;> omega))) | ((with_reducible apply QS_shl16); exact rfl; exact rfl; omega) | ((with_reducible apply QS_shr64); exact rfl; exact rfl; (first | assumption | omega | decide | exact Nat.lt_of_le_of_lt (Nat.shiftRight_le _ _) (by first | assumption | omega) | (apply_assumption <;> omega))) | ((with_reducible apply QS_and64); exact rfl; exact rfl; (first | assumption | omega | decide | exact Nat.lt_of_le_of_lt (Nat.shiftRight_le _ _) (by first | assumption | omega) | (apply_assumption <;> omega)); (first | assumption | omega | decide | exact Nat.lt_of_le_of_lt (Nat.shiftRight_le _ _) (by first | assumption | omega) | (apply_assumption <;> omega))) | ((with_reducible apply QS_or64); exact rfl; exact rfl; (first | assumption | omega | decide | exact Nat.lt_of_le_of_lt (Nat.shiftRight_le _ _) (by first | assumption | omega) | (apply_assumption <;> omega)); (first | assumption | omega | decide | exact Nat.lt_of_le_of_lt (Nat.shiftRight_le _ _) (by first | assumption | omega) | (apply_assumption <;> omega))) | ((with_reducible apply QS_shl64); exact rfl; exact rfl; omega) | ((with_reducible apply QS_eqlB); exact rfl; exact rfl) | ((with_reducible apply QS_neqB); exact rfl; exact rfl) | ((with_reducible apply QS_sliceLow); exact rfl; exact rfl; (first | assumption | omega)) | ((with_reducible apply QS_eqlNil); exact rfl; exact rfl) | ((with_reducible apply QS_neqNil); exact rfl; exact rfl) | ((with_reducible apply QS_addW); exact rfl; exact rfl) | ((with_reducible apply QS_subW); exact rfl; exact rfl) | ((with_reducible apply QS_mulW); exact rfl; exact rfl) | ((with_reducible apply QS_lookI); exact rfl; exact rfl; (first | ((repeat (first | with_reducible exact List.mem_cons_self | with_reducible apply List.mem_cons_of_mem)); done) | (repeat (first | exact List.Mem.head _ | apply List.Mem.tail)))) | ((with_reducible apply QS_lookIok); exact rfl; exact rfl; (first | ((repeat (first | with_reducible exact List.mem_cons_self | with_reducible apply List.mem_cons_of_mem)); done) | (repeat (first | exact List.Mem.head _ | apply List.Mem.tail)))) | ((with_reducible apply QS_lookB); exact rfl; exact rfl; (first | ((repeat (first | with_reducible exact List.mem_cons_self | with_reducible apply List.mem_cons_of_mem)); done) | (repeat (first | exact List.Mem.head _ | apply List.Mem.tail)))) | ((with_reducible apply QS_lookBok); exact rfl; exact rfl; (first | ((repeat (first | with_reducible exact List.mem_cons_self | with_reducible apply List.mem_cons_of_mem)); done) | (repeat (first | exact List.Mem.head _ | apply List.Mem.tail)))) | ((with_reducible apply QS_lenMap); exact rfl; (first | ((repeat (first | with_reducible exact List.mem_cons_self | with_reducible apply List.mem_cons_of_mem)); done) | (repeat (first | exact List.Mem.head _ | apply List.Mem.tail)))) | ((with_reducible apply QS_makeFunc); exact rfl; exact rfl) | fail) : QS P C E S op ty v := h
theorem ES.auto {o : Oper} {N : Slots → List Ent → Prop} (h : ES P C E S o N := by first | ((with_reducible apply ES_alloc); (first | exact cells_agg _ | exact cellsL (by (repeat (first | exact IsL.nil | apply IsL.cons | exact IsL.refl _))) | exact rfl); exact rfl) | ((with_reducible apply ES_box); exact rfl; (first | exact cells_agg _ | exact cellsL (by (repeat (first | exact IsL.nil | apply IsL.cons | exact IsL.refl _))) | exact rfl); exact rfl) | ((with_reducible apply ES_buildSliceF); exact rfl; exact rfl; exact rfl; exact rfl; exact rfl; ((repeat (first | exact IsL.nil | apply IsL.cons | exact IsL.refl _))); exact rfl) | ((with_reducible apply ES_storeWhole); exact rfl; exact rfl; (first | ((repeat (first | with_reducible exact Upd.here _ _ _ | with_reducible apply Upd.there)); done) | (repeat (first | exact Upd.here _ _ _ | apply Upd.there))); (first | exact rfl | exact relCells_size _ _); (first | exact rfl | exact relCells_size _ _); (first | exact rfl | exact relCells_onesL _ _)) | ((with_reducible apply ES_store); exact rfl; exact rfl; (first | ((repeat (first | with_reducible exact Upd.here _ _ _ | with_reducible apply Upd.there)); done) | (repeat (first | exact Upd.here _ _ _ | apply Upd.there))); (first | exact relCells_set _ _ _ _ (by omega) | exact arrSet (by (repeat (first | exact IsL.nil | apply IsL.cons | exact IsL.refl _))) | rfl); (first | (simp only [relCells_size, List.size_toArray, List.length_cons, List.length_nil]; omega) | (simp [relCells_size]; done) | (simp [relCells_size]; omega)); exact rfl) | ((with_reducible apply ES_storeOwn1); exact rfl; exact rfl; (first | ((repeat (first | with_reducible exact Upd.here _ _ _ | with_reducible apply Upd.there)); done) | (repeat (first | exact Upd.here _ _ _ | apply Upd.there))); exact fun _ => rfl; (first | exact List.getElem?_set_self (by first | assumption | omega) | exact List.getElem?_eq_getElem (by first | assumption | omega | (simp only [List.length_set]; omega))); (first | exact rfl  ); exact rfl) | ((with_reducible apply ES_storeOwn0); exact rfl; exact rfl; (first | ((repeat (first | with_reducible exact Upd.here _ _ _ | with_reducible apply Upd.there)); done) | (repeat (first | exact Upd.here _ _ _ | apply Upd.there))); exact fun _ => rfl; (first | exact List.getElem?_set_self (by first | assumption | omega) | exact List.getElem?_eq_getElem (by first | assumption | omega | (simp only [List.length_set]; omega))); decide; (first | exact rfl  ); exact rfl) | ((with_reducible apply ES_storeOwn); exact rfl; exact rfl; (first | ((repeat (first | with_reducible exact Upd.here _ _ _ | with_reducible apply Upd.there)); done) | (repeat (first | exact Upd.here _ _ _ | apply Upd.there))); exact fun _ => rfl; (first | exact List.getElem?_set_self (by first | assumption | omega) | exact List.getElem?_eq_getElem (by first | assumption | omega | (simp only [List.length_set]; omega))); decide; (first | exact rfl  ); exact rfl) | ((with_reducible apply ES_makeSlice (enc := intEnc) (z0 := 0)); exact rfl; exact rfl; exact rfl; (first | omega | (simp; omega)); decide; exact rfl) | ((with_reducible apply ES_makeSlice (enc := boolEnc) (z0 := false)); exact rfl; exact rfl; exact rfl; (first | omega | (simp; omega)); decide; exact rfl) | ((with_reducible apply ES_makeMapI); exact rfl) | ((with_reducible apply ES_makeMapB); exact rfl) | ((with_reducible apply ES_mapUpdate); exact rfl; exact rfl; (first | ((repeat (first | with_reducible exact Upd.here _ _ _ | with_reducible apply Upd.there)); done) | (repeat (first | exact Upd.here _ _ _ | apply Upd.there))); exact rfl) | fail) : ES P C E S o N := h
/-- what a step leaves to be shown -/
structure Rest (R : Prop) : Prop where
  out : R
/-! one step of a walk: what is left to be shown is the step's own to find -/
theorem GO {p R : Prop} (r : R) (h : Rest R → p := by intro r; first | ((with_reducible (first | apply T_seq | apply T_region | apply TL_nil | apply At_then | apply T_block | apply At_block | apply T_skip | apply T_exit | apply At_then_exit | apply At_block_exit | apply T_ret | apply At_then_ret | apply At_block_ret | apply TD_nil)); exact r.out) | ((with_reducible apply At_block_past); exact rfl; exact r.out) | ((with_reducible apply TL_q); exact QS.auto; exact rfl; exact r.out) | ((with_reducible apply TL_yes); exact rfl; exact rfl; (with_reducible exact rfl); exact r.out) | ((with_reducible apply TL_no); exact rfl; exact rfl; (first | with_reducible exact Bool.not_true.symm | with_reducible exact Bool.not_false.symm); exact rfl; exact r.out) | ((with_reducible apply TL_no_undef); exact rfl; exact rfl; exact rfl; exact r.out)) : p := h ⟨r⟩
theorem GOE {p R : Prop} (r : R) (h : Rest R → p := by intro r; (with_reducible apply TL_e); exact ES.auto; exact rfl; exact r.out) : p := h ⟨r⟩
theorem GO2 {p R T : Prop} (r : R) (s : T) (h : Rest R → Rest T → p := by intro r s; first | ((with_reducible apply T_cond); exact rfl; exact r.out; exact s.out) | ((with_reducible (first | apply TL_guard | apply TD_guard)); exact rfl; exact rfl; (fail_if_success (with_reducible refine imp_lit1 ?_)); (fail_if_success (with_reducible refine imp_lit0)); exact r.out; exact s.out)) : p := h ⟨r⟩ ⟨s⟩
theorem GG {p R : Prop} (r : R) (h : Rest R → p := by intro r; first | ((with_reducible (first | apply TD_q0 | apply TD_q1 | apply TD_q2 | apply TD_q3)); exact QS.auto; exact rfl; exact r.out) | ((with_reducible (first | apply TD_q0y | apply TD_q1y)); exact rfl; exact rfl; (with_reducible exact rfl); exact QS.auto; exact rfl; exact r.out) | ((with_reducible apply TL_q); exact QS.auto; exact rfl; exact r.out) | ((with_reducible (first | apply T_seq | apply T_region | apply TL_nil | apply At_then | apply T_block | apply At_block | apply T_skip | apply T_exit | apply At_then_exit | apply At_block_exit | apply T_ret | apply At_then_ret | apply At_block_ret | apply TD_nil)); exact r.out) | ((with_reducible apply At_block_past); exact rfl; exact r.out) | ((with_reducible apply TD_no); exact rfl; exact rfl; exact rfl; (first | with_reducible exact Bool.not_true.symm | with_reducible exact Bool.not_false.symm); exact rfl; exact r.out) | ((with_reducible apply TD_eno); exact rfl; exact rfl; exact rfl; (first | with_reducible exact Bool.not_true.symm | with_reducible exact Bool.not_false.symm); exact rfl; exact r.out) | ((with_reducible apply TD_noU); exact rfl; exact rfl; exact rfl; exact rfl; exact r.out) | ((with_reducible apply TD_enoU); exact rfl; exact rfl; exact rfl; exact rfl; exact r.out) | ((with_reducible apply TL_yes); exact rfl; exact rfl; (with_reducible exact rfl); exact r.out) | ((with_reducible apply TL_no); exact rfl; exact rfl; (first | with_reducible exact Bool.not_true.symm | with_reducible exact Bool.not_false.symm); exact rfl; exact r.out) | ((with_reducible apply TL_no_undef); exact rfl; exact rfl; exact rfl; exact r.out)) : p := h ⟨r⟩
theorem GE {p R : Prop} (r : R) (h : Rest R → p := by intro r; first | ((with_reducible (first | apply TD_e2 | apply TD_e3)); exact ES.auto; exact rfl; exact r.out) | ((with_reducible apply TL_e); exact ES.auto; exact rfl; exact r.out) | ((with_reducible (first | apply TD_e2y | apply TD_e3y)); exact rfl; exact rfl; (with_reducible exact rfl); exact ES.auto; exact r.out)) : p := h ⟨r⟩
theorem GOF {p R T : Prop} (r : R) (s : T) (h : Rest R → Rest T → p := by (intro r s; (with_reducible apply TD_fork); exact r.out; exact s.out)) : p := h ⟨r⟩ ⟨s⟩
end
theorem SUB {A B : List Ent} (h : A.Sublist B := by (repeat (first | with_reducible exact List.nil_sublist _ | with_reducible exact List.Sublist.refl _ | with_reducible apply List.Sublist.cons_cons | with_reducible apply List.Sublist.cons))) : A.Sublist B := h
theorem SUBS {C : Ctx} {S S' : List Ent} (h : ∀ w, Mem C w S → Mem C w S' := by (intro w hw; exact hw.sub (by first | ((repeat (first | with_reducible exact List.nil_sublist _ | with_reducible exact List.Sublist.refl _ | with_reducible apply List.Sublist.cons_cons | with_reducible apply List.Sublist.cons)); done) | (repeat (first | exact List.nil_sublist _ | exact List.Sublist.refl _ | apply List.Sublist.cons_cons | apply List.Sublist.cons))))) : ∀ w, Mem C w S → Mem C w S' := h
section
variable {P : Program} {C : Ctx} {Q : Exit → Act → World → Prop} {e : Nat} {S0 S : List Ent} {E : Slots} {l : List Oper} {t : Tr} {ty i j k : Nat} {ps : String} {af : Array Edge} {op : Op} {b want : Bool}
theorem TD_e2z {dst : Option Tmp} {N : Slots → List Ent → Prop} (he : ES P C E S ⟨dst, op, ty, ps, af, some (j, want)⟩ N) (hg : dstAt l j = some k ∧ look k E = some (.bool b) ∧ b = want)
    (h : ∀ E' S', N E' S' → S0.Sublist S' ∧ TD P C l Q e S0 t E' S') : TD P C l Q e S0 (.step 2 i ⟨dst, op, ty, ps, af, some (j, want)⟩ t) E S := TD_e2y hg.1 hg.2.1 hg.2.2 he h
theorem TD_e3z {dst : Option Tmp} {N : Slots → List Ent → Prop} (he : ES P C E S ⟨dst, op, ty, ps, af, some (j, want)⟩ N) (hg : dstAt l j = some k ∧ look k E = some (.bool b) ∧ b = want)
    (h : ∀ E' S', N E' S' → TD P C l Q e S0 t E' S') : TD P C l Q e S0 (.step 3 i ⟨dst, op, ty, ps, af, some (j, want)⟩ t) E S := TD_e3y hg.1 hg.2.1 hg.2.2 he h
end
end Go.Proofs.Ytiimjppceobkfaa

namespace Go.Proofs.Ytiimjppceobkfaa
open Go.RowKit
section
variable {P : Program} {C : Ctx} {E : Slots} {S : List Ent} {t e m g p n c ty : Nat} {x y : Operand} {v : Value}
theorem QS_sliceHigh [hs : SliceOf P t e m] {k : IntKind} {j : Nat} (hx : evo E x = some (.slice (some ⟨g, p, none⟩) n c)) (hy : evo E y = some (.int k (j : Nat))) (hj : j ≤ c) :
    QS P C E S (.slice t x none (some y) none) ty (.slice (some ⟨g, p, none⟩) j c) :=
  QS.of (fun a w ha _ => by
    have he : P.elem t = e := by simp [Program.elem, hs.und]
    have hu : P.underlying t = some (.slice (P.elem t)) := by rw [he]; exact hs.und
    have hr := run_slice_h (P := P) (w := w) t (some ⟨g, p, none⟩) n c hu k (j : Int) (by omega) (by omega)
    rw [he, hs.size w] at hr
    simp only [Result.andThen_ok, Int.toNat_natCast] at hr
    have hv : sliced (some ⟨g, p, none⟩) 0 j c m = .slice (some ⟨g, p, none⟩) j c := by
      unfold sliced
      split <;> simp [add_mk]
    rw [hv] at hr
    simp [execOp, ha.evo hx, ha.evo hy, run_sliceAt_slice (P := P) (w := w) t _ _ _ _ hu, hr])
end
end Go.Proofs.Ytiimjppceobkfaa

namespace Go.Proofs.Ytiimjppceobkfaa
open Go.RowKit
theorem flat_setW {α : Type} {enc : α → List Value} {M : Nat} (hM : ∀ x, (enc x).length = M) (xx : α) : ∀ (ls : List α) (j : Nat), j < ls.length →
    (ls.set j xx).flatMap enc = (ls.flatMap enc).take (j * M) ++ enc xx ++ (ls.flatMap enc).drop (j * M + M)
  | [], _, h => by simp at h
  | x :: ls, 0, _ => by
    simp only [List.set_cons_zero, List.flatMap_cons, Nat.zero_mul, List.take_zero, List.nil_append, Nat.zero_add]
    rw [List.drop_append, List.drop_eq_nil_of_le (by rw [hM]; exact Nat.le_refl _), hM, Nat.sub_self]
    simp
  | x :: ls, j + 1, h => by
    have ih := flat_setW hM xx ls j (by simpa using h)
    have e : (j + 1) * M = M + j * M := by rw [Nat.succ_mul]; omega
    simp only [List.set_cons_succ, List.flatMap_cons, ih, e]
    have t1 : List.take (M + j * M) (enc x ++ ls.flatMap enc) = enc x ++ (ls.flatMap enc).take (j * M) := by
      rw [List.take_append, List.take_of_length_le (l := enc x) (by rw [hM]; omega), hM, show M + j * M - M = j * M by omega]
    have t2 : List.drop (M + j * M + M) (enc x ++ ls.flatMap enc) = (ls.flatMap enc).drop (j * M + M) := by
      rw [List.drop_append, List.drop_of_length_le (l := enc x) (by rw [hM]; omega), hM, show M + j * M + M - M = j * M + M by omega, List.nil_append]
    rw [t1, t2]
    simp
section
variable {P : Program} {C : Ctx} {E : Slots} {S S' : List Ent} {ty s g c M e j : Nat} {ps : String} {af : Array Edge} {g0 : Option (Nat × Bool)} {x y : Operand} {α : Type} {enc : α → List Value} {ls : List α}
theorem ES_storeOwnAgg [hs : AggOf P s M] {xx : α} {us : List Value} (hx : evo E x = some (.pointer (some ⟨g, j * M, none⟩))) (hy : evo E y = some (.agg us.toArray)) (he : us = enc xx)
    (hu : Upd S (entOwn enc M e (some ⟨g, 0, none⟩) c ls) (entOwn enc M e (some ⟨g, 0, none⟩) c (ls.set j xx)) S') (hM : ∀ x, (enc x).length = M) (hj : j < ls.length) (h1 : (enc xx).all (·.oneCell') = true) :
    ES P C E S ⟨none, .store s x y, ty, ps, af, g0⟩ (fun E' T => E' = E ∧ T = S') := by
  subst he
  refine (ES_skip (fun T => T = S') (fun a w ha hw => ?_)).weak (by rintro _ _ ⟨rfl, rfl⟩; exact ⟨rfl, rfl⟩)
  have ho : Own enc M e w 0 (.slice (some ⟨g, 0, none⟩) ls.length c) ls := (hw.holds _ hu.mem).1
  obtain ⟨g', cap, cur, hv, hbb, hg, hnc, hcm, hcs, htake⟩ := ho.2.resolve_left (by simp)
  simp only [Value.slice.injEq, Option.some.injEq, Addr.mk.injEq, and_true, true_and] at hv
  obtain ⟨rfl, rfl⟩ := hv
  have hjM : j * M + M ≤ ls.length * M := by rw [← Nat.succ_mul]; exact Nat.mul_le_mul_right _ hj
  have hnM : ls.length * M ≤ c * M := Nat.mul_le_mul_right _ hnc
  have hfit : j * M + (enc xx).length ≤ cur.size := by rw [hM, hcs]; omega
  have hst := run_storeCells_at P g (j * M) e (enc xx) 0 cur w hg (by simpa using hfit) (fun u hu => List.all_eq_true.1 h1 u hu)
  simp only [Nat.add_zero] at hst
  have hcl : (cur.toList.take (j * M) ++ enc xx ++ cur.toList.drop (j * M + (enc xx).length)).length = cur.size := by
    simp only [List.length_append, List.length_take, List.length_drop, Array.length_toList]; omega
  refine ⟨w.setRow g (cur.toList.take (j * M) ++ enc xx ++ cur.toList.drop (j * M + (enc xx).length)).toArray, S', ?_, ?_, rfl⟩
  · have hsz : (Value.agg (enc xx).toArray).cells.size = M := by simp [Value.cells, hM]
    simp only [execOp, ha.evo hx, ha.evo hy, Instr.storeAt, Instr.sureAddr, storeVar, Sem.run_bind, Sem.run_pure, Result.andThen_ok, hs.size w, hsz]
    simp [Value.cells, hst]
  · refine hw.upd hu (Keeps.setRow w g _) (by simp [entOwn, Value.ownBlock]) (fun k hk => ?_) ?_
    · have hk' : some g = some k := hk
      cases hk'
      exact ⟨by simpa using (Array.getElem?_eq_some_iff.1 hg).1, .inl rfl⟩
    · show Own enc M e _ 0 (.slice (some ⟨g, 0, none⟩) (ls.set j xx).length c) (ls.set j xx)
      refine ⟨flat_len hM _, .inr ⟨g, c, _, rfl, Nat.zero_le _, setRow_heap w g cur _ e _ hg, by simpa using hnc, hcm, ?_, ?_⟩⟩
      · simp only [List.size_toArray]; rw [hcl, hcs]
      · rw [flat_setW hM xx ls j hj]
        simp only [List.length_set]
        rw [← htake, hM]
        have l1 : (cur.toList.take (j * M)).length = j * M := by rw [List.length_take, Array.length_toList, hcs]; omega
        have l2 : (cur.toList.take (j * M) ++ enc xx).length = j * M + M := by rw [List.length_append, l1, hM]
        rw [List.take_append, List.take_of_length_le (by rw [l2]; omega), l2, List.take_take, Nat.min_eq_left (by omega), List.drop_take]
theorem QS_indexVal {cs : Array Value} {n e j : Nat} {k : IntKind} {v : Value} [hs : ArrayOf P s n e 1] [h1 : OneCell P e] (hx : evo E x = some (.agg cs)) (hy : evo E y = some (.int k (j : Nat))) (hj : j < n) (hv : nthV cs.toList j = some v) : QS P C E S (.index s x y) ty v :=
  QS.of (fun a w ha _ => by
    have hr : (Instr.index s (.agg cs) (.int k (j : Nat))).run P w = .ok v w := by
      unfold Instr.index
      have h0 : (asIntOf (.int k (j : Nat))).run P w = .ok (k, (j : Int)) w := rfl
      have hj' : 0 ≤ (j : Int) ∧ (j : Int) < (n : Int) := by omega
      have hc : cs[j]? = some v := by rw [← hv, ← nthV_eq]; simp
      simp only [Sem.run_bind, h0, Result.andThen_ok, run_underlying hs.und, if_pos hj', hs.size w, Int.toNat_natCast, Nat.mul_one, part, h1.agg w]
      simp [hc]
    simp [execOp, ha.evo hx, ha.evo hy, hr])
theorem ES_makeSliceL {t d bytes n : Nat} {z : Value} {k k' : IntKind} {z0 : α} {zz : Int} [hs : SliceOf P t e M] [hi : InfoOf P e z M bytes] (hx : evo E x = some (.int k zz)) (hy : evo E y = some (.int k' zz)) (hn : IntLit zz n) (hz : z.cells.toList = enc z0)
    (hb : n * bytes ≤ 140737488355328) (hb0 : 0 < bytes) (hd : Nat.ble (d + 1) C.n = true) :
    ES P C E S ⟨some d, .makeSlice t x y, ty, ps, af, g0⟩ (fun E' T => ∃ g, E' = (d, .slice (some ⟨g, 0, none⟩) n n) :: E ∧ T = entOwn enc M e (some ⟨g, 0, none⟩) n (List.replicate n z0) :: S) :=
  ES_makeSlice (by rw [hx, hn.eq]) (by rw [hy, hn.eq]) hz hb hb0 hd
end
end Go.Proofs.Ytiimjppceobkfaa

namespace Go.Proofs.Ytiimjppceobkfaa
open Go.RowKit

theorem flat_take {α : Type} {enc : α → List Value} {M : Nat} (hM : ∀ x, (enc x).length = M) : ∀ (ls : List α) (i : Nat), i ≤ ls.length → (ls.take i).flatMap enc = (ls.flatMap enc).take (i * M)
  | ls, 0, _ => by simp
  | [], i + 1, h => by simp at h
  | x :: ls, i + 1, h => by
    have ih := flat_take hM ls i (by simpa using h)
    rw [List.take_succ_cons, List.flatMap_cons, List.flatMap_cons, ih, show (i + 1) * M = M + i * M by rw [Nat.succ_mul]; omega]
    rw [List.take_append, List.take_of_length_le (l := enc x) (by rw [hM]; omega), hM, show M + i * M - M = i * M by omega]
theorem zeroCells_mem {zs : Array Value} {n : Nat} {u : Value} (h : u ∈ (Builtin.zeroCells zs n).toList) : u ∈ zs.toList := by
  unfold Builtin.zeroCells at h
  simp only [Array.toList_map, List.mem_map] at h
  obtain ⟨j, hj, rfl⟩ := h
  by_cases h0 : zs.size = 0
  · simp [h0] at hj
  · have hlt : j % zs.size < zs.size := Nat.mod_lt _ (by omega)
    rw [getElem!_pos zs (j % zs.size) hlt]
    simp
section
variable {P : Program} {C : Ctx} {E : Slots} {S S' : List Ent} {ty t g c M e i p n k bytes : Nat} {ps : String} {af : Array Edge} {g0 : Option (Nat × Bool)} {x : Operand} {z : Value} {α : Type} {enc : α → List Value} {ls : List α}
theorem ES_none {op : Op} (Φ : List Ent → Prop)
    (hr : ∀ a w, Env C.n a E → Mem C w S → ∃ v w' S', (execOp a.eval ⟨none, op, ty, ps, af, g0⟩).run P w = .ok (.value v) w' ∧ Mem C w' S' ∧ Φ S') : ES P C E S ⟨none, op, ty, ps, af, g0⟩ (fun E' S' => Φ S' ∧ E' = E) := by
  intro a w K Q ha hw hK
  obtain ⟨v, w', S', h1, h2, h3⟩ := hr a w ha hw
  unfold Oper.wp
  rw [h1]
  exact hK _ _ _ _ ⟨h3, rfl⟩ (ha.putNone v) h2
theorem ES_clearTail [hs : SliceOf P t e M] [hi : InfoOf P e z M bytes] [hz : ZeroOf P e z] (hx : evo E x = some (.slice (some ⟨g, p, none⟩) n k)) (hu : Upd S (entOwn enc M e (some ⟨g, 0, none⟩) c ls) (entOwn enc M e (some ⟨g, 0, none⟩) c (ls.take i)) S')
    (hM : ∀ x, (enc x).length = M) (hn : n = ls.length - i) (hil : i ≤ ls.length) (hp : i < ls.length → p = i * M) (h1 : z.cells.toList.all (·.oneCell') = true) :
    ES P C E S ⟨none, .call ⟨.builtin .clear, #[x], #[t]⟩, ty, ps, af, g0⟩ (fun E' T => E' = E ∧ T = S') := by
  refine (ES_none (fun T => T = S') (fun a w ha hw => ?_)).weak (by rintro _ _ ⟨rfl, rfl⟩; exact ⟨rfl, rfl⟩)
  have ho : Own enc M e w 0 (.slice (some ⟨g, 0, none⟩) ls.length c) ls := (hw.holds _ hu.mem).1
  obtain ⟨g', cap, cur, hv, hbb, hg, hnc, hcm, hcs, htake⟩ := ho.2.resolve_left (by simp)
  simp only [Value.slice.injEq, Option.some.injEq, Addr.mk.injEq, and_true, true_and] at hv
  obtain ⟨rfl, rfl⟩ := hv
  have run : ∀ w', (Builtin.clear_ #[t] ty #[.slice (some ⟨g, p, none⟩) n k]).run P w = .ok (.tuple #[]) w' → (execOp a.eval ⟨none, .call ⟨.builtin .clear, #[x], #[t]⟩, ty, ps, af, g0⟩).run P w = .ok (.value (.tuple #[])) w' := by
    intro w' h
    simp [execOp, resolve, invoke, builtin, ha.evo hx, h]
  by_cases h0 : n = 0
  · subst h0
    have hi' : i = ls.length := by omega
    refine ⟨.tuple #[], w, S', run _ (by simp [Builtin.clear_, run_underlying hs.und]), ?_, rfl⟩
    refine hw.upd hu (Keeps.refl [] w) (by simp) (fun j hj => ?_) ?_
    · have hj' : some g = some j := hj
      cases hj'
      exact ⟨(Array.getElem?_eq_some_iff.1 hg).1, .inl rfl⟩
    · subst hi'
      rw [List.take_length]
      exact ho
  · have hlt : i < ls.length := by omega
    obtain rfl := hp hlt
    have hzs : (Builtin.zeroCells z.cells n).size = n * M := by simp [Builtin.zeroCells, hi.zsize]
    have hiM : i * M + n * M = ls.length * M := by rw [← Nat.add_mul]; congr 1; omega
    have hnM : ls.length * M ≤ c * M := Nat.mul_le_mul_right _ hnc
    have hfit : i * M + (Builtin.zeroCells z.cells n).toList.length ≤ cur.size := by rw [Array.length_toList, hzs, hcs]; omega
    have hst := run_storeCells_at P g (i * M) e (Builtin.zeroCells z.cells n).toList 0 cur w hg (by simpa using hfit) (fun u hu => List.all_eq_true.1 h1 u (zeroCells_mem hu))
    simp only [Nat.add_zero] at hst
    have hcl : (cur.toList.take (i * M) ++ (Builtin.zeroCells z.cells n).toList ++ cur.toList.drop (i * M + (Builtin.zeroCells z.cells n).toList.length)).length = cur.size := by
      simp only [List.length_append, List.length_take, List.length_drop, Array.length_toList] at hfit ⊢; omega
    obtain ⟨m, hm⟩ : ∃ m, n = m + 1 := ⟨n - 1, by omega⟩
    refine ⟨.tuple #[], w.setRow g (cur.toList.take (i * M) ++ (Builtin.zeroCells z.cells n).toList ++ cur.toList.drop (i * M + (Builtin.zeroCells z.cells n).toList.length)).toArray, S', run _ ?_, ?_, rfl⟩
    · subst hm
      simp only [Builtin.clear_, List.getElem?_toArray, List.getElem?_cons_zero, run_underlying hs.und, Sem.run_bind, Result.andThen_ok, hz.run w, hst, Sem.run_pure]
    · refine hw.upd hu (Keeps.setRow w g _) (by simp [entOwn, Value.ownBlock]) (fun j hj => ?_) ?_
      · have hj' : some g = some j := hj
        cases hj'
        exact ⟨by simpa using (Array.getElem?_eq_some_iff.1 hg).1, .inl rfl⟩
      · have hli : (ls.take i).length = i := by rw [List.length_take]; omega
        show Own enc M e _ 0 (.slice (some ⟨g, 0, none⟩) (ls.take i).length c) (ls.take i)
        refine ⟨flat_len hM _, .inr ⟨g, c, _, rfl, Nat.zero_le _, setRow_heap w g cur _ e _ hg, by omega, hcm, ?_, ?_⟩⟩
        · simp only [List.size_toArray]; rw [hcl, hcs]
        · rw [flat_take hM ls i hil, ← htake, hli]
          have l1 : (cur.toList.take (i * M)).length = i * M := by rw [List.length_take, Array.length_toList, hcs]; omega
          rw [List.take_take, Nat.min_eq_left (by omega), List.append_assoc, List.take_append, List.take_of_length_le (by rw [l1]; omega), l1, Nat.sub_self, List.take_zero, List.append_nil]
end
end Go.Proofs.Ytiimjppceobkfaa

namespace Go.Proofs.Ytiimjppceobkfaa
open Go.RowKit

section
variable {P : Program} {C : Ctx} {E : Slots} {S S' : List Ent}
variable {d ty ty2 ty3 : Nat} {ps : String} {af : Array Edge} {g0 : Option (Nat × Bool)} {x y m : Operand} {t k e g : Nat} {n : Int} {a b : ByteArray}
theorem QS_eqlStr {r : Bool} (hx : evo E x = some (.string a)) (hy : evo E y = some (.string b)) (h : (a.data.toList == b.data.toList) = r) : QS P C E S (.binOp .eql ty2 x y ty3) ty (.bool r) :=
  QS.of (fun ac w ha _ => by
    unfold execOp
    simp only [ha.evo hx, ha.evo hy]
    have hg : (eqGuard .eql ty2 x y (.string a) (.string b)).run P w = .ok () w := rfl
    have hb : (binOp .eql ty2 (.string a) (.string b)).run P w = .ok (.bool r) w := by
      rw [binOp_string_eql, ByteArray.toList_eq, ByteArray.toList_eq, h]; rfl
    simp only [Sem.run_bind, hg, Result.andThen_ok, hb]; rfl)
theorem QS_eqlStrT (hx : evo E x = some (.string a)) (hy : evo E y = some (.string b)) (h : (a.data.toList == b.data.toList) = true) : QS P C E S (.binOp .eql ty2 x y ty3) ty (.bool true) := QS_eqlStr hx hy h
theorem QS_eqlStrF (hx : evo E x = some (.string a)) (hy : evo E y = some (.string b)) (h : (a.data.toList == b.data.toList) = false) : QS P C E S (.binOp .eql ty2 x y ty3) ty (.bool false) := QS_eqlStr hx hy h
theorem QS_rem {i j : Int} (hx : evo E x = some (.int .i64 i)) (hy : evo E y = some (.int .i64 j)) (hi : 0 ≤ i) (hj : 0 < j) : QS P C E S (.binOp .rem ty2 x y ty3) ty (.int .i64 (i % j)) :=
  QS.of (fun a w ha _ => binInt ha hx hy _ (by simp [binOp, Op.intDiv, show ¬ j = 0 by omega, Int.tmod_eq_emod_of_nonneg hi]))
def delM {α : Type} : List (Int × α) → Int → List (Int × α)
  | [], _ => []
  | p :: D, k => if k = p.1 then D else p :: delM D k
theorem findD_del {α : Type} (k : Int) : ∀ (D : List (Int × α)) (i : Nat), match findD D k i with
    | some (j, _) => i ≤ j ∧ delM D k = D.eraseIdx (j - i)
    | none => delM D k = D
  | [], _ => rfl
  | p :: D, i => by
    simp only [findD]
    by_cases h : k = p.1
    · rw [if_pos h]
      exact ⟨Nat.le_refl _, by simp [delM, h]⟩
    · rw [if_neg h]
      have ih := findD_del k D (i + 1)
      cases hf : findD D k (i + 1) with
      | none => rw [hf] at ih; simp only at ih ⊢; simp [delM, h, ih]
      | some q =>
        rw [hf] at ih
        obtain ⟨j, u⟩ := q
        simp only at ih ⊢
        obtain ⟨h1, h3⟩ := ih
        refine ⟨by omega, ?_⟩
        rw [show j - i = (j - (i + 1)) + 1 by omega, List.eraseIdx_cons_succ, ← h3]
        simp [delM, h]
theorem map_erase {α β : Type} (f : α → β) : ∀ (l : List α) (i : Nat), (l.eraseIdx i).map f = (l.map f).eraseIdx i
  | [], _ => by simp
  | a :: l, 0 => by simp
  | a :: l, i + 1 => by simp [map_erase f l i]
theorem born_sub {es fs : Array MapEntry} {cl : Nat} (h : BornOk es cl) (hs : fs.toList.Sublist es.toList) : BornOk fs cl := ⟨h.1.sublist (hs.map _), fun x hx => h.2 x (hs.subset hx)⟩
theorem run_delete [hm : MapOf P t k e] {α : Type} {enc : α → Value} {D : List (Int × α)} {w : World} (hD : MapI enc w g D) (ats : Array TypeId) (hat : ats[0]? = some t) (ty : TypeId) :
    ∃ w', (Builtin.delete_ ats ty #[.map (some g), .int .i64 n]).run P w = .ok (.tuple #[]) w' ∧ MapI enc w' g (delM D n) ∧ Keeps [g] w w' := by
  obtain ⟨es, cl, hg, hes, hbo⟩ := hD
  have hlt : g < w.heap.size := (Array.getElem?_eq_some_iff.1 hg).1
  have hgo : (getObj g).run P w = .ok (.map es cl) w := by simp [getObj, Sem.run, hg]
  have h1 := run_checkKey (hm := hm) (n := n) es.isEmpty w
  have h2 := run_findKey (hm := hm) (n := n) enc es.toList D hes w
  have hdel := findD_del n D 0
  have hset : ∀ o : Obj, (setObj g o).run P w = .ok () { w with heap := w.heap.setIfInBounds g o } := fun o => by simp [setObj, Sem.run, hg]
  have hk : ∀ o : Obj, Keeps [g] w { w with heap := w.heap.setIfInBounds g o } := fun o => ⟨rfl, rfl, rfl, by simp, fun j _ hj => by
    simp only [List.mem_singleton] at hj
    exact Array.getElem?_setIfInBounds_ne (fun e => hj e.symm)⟩
  have hget : ∀ o : Obj, ({ w with heap := w.heap.setIfInBounds g o } : World).heap[g]? = some o := fun o => by simp [hlt]
  unfold Builtin.delete_
  simp only [hat, List.getElem?_toArray, List.getElem?_cons_zero, List.getElem?_cons_succ, run_underlying hm.und, Sem.run_bind, Result.andThen_ok, hgo, h1, h2]
  cases hf : findD D n 0 with
  | none =>
    rw [hf] at hdel
    simp only [Option.map_none]
    refine ⟨_, by simp only [Sem.run_bind, hset, Result.andThen_ok]; rfl, ⟨_, _, hget _, ?_, hbo⟩, hk _⟩
    rw [show delM D n = D from hdel]
    exact hes
  | some p =>
    obtain ⟨i, u⟩ := p
    rw [hf] at hdel
    simp only [Nat.sub_zero] at hdel
    simp only [Option.map_some]
    refine ⟨_, by simp only [Sem.run_bind, hset, Result.andThen_ok]; rfl, ⟨_, _, hget _, ?_, born_sub hbo (by rw [Array.toList_eraseIdxIfInBounds]; exact List.eraseIdx_sublist _ _)⟩, hk _⟩
    rw [hdel.2]
    rw [Array.toList_eraseIdxIfInBounds, map_erase, hes]
    unfold rowOfMap
    rw [map_erase]
theorem ES_delete [hm : MapOf P t k e] {α : Type} {enc : α → Value} {D : List (Int × α)} (hx : evo E m = some (.map (some g))) (hy : evo E x = some (.int .i64 n)) {t2 : Nat} (hu : Upd S (entMap enc g D) (entMap enc g (delM D n)) S') :
    ES P C E S ⟨none, .call ⟨.builtin .delete, #[m, x], #[t, t2]⟩, ty, ps, af, g0⟩ (fun E' T => E' = E ∧ T = S') := by
  refine (ES_none (fun T => T = S') (fun a w ha hw => ?_)).weak (by rintro _ _ ⟨rfl, rfl⟩; exact ⟨rfl, rfl⟩)
  obtain ⟨w', hr, hD', hk⟩ := run_delete (hm := hm) (n := n) (hw.holds _ hu.mem).1 #[t, t2] rfl ty
  refine ⟨.tuple #[], w', S', by simp [execOp, resolve, invoke, builtin, ha.evo hx, ha.evo hy, hr], ?_, rfl⟩
  refine hw.upd hu hk (by simp [entMap]) (fun k hk' => ?_) hD'
  have : some g = some k := hk'
  cases this
  obtain ⟨es, cl, hg, _⟩ := hD'
  exact ⟨(Array.getElem?_eq_some_iff.1 hg).1, .inl rfl⟩
end
end Go.Proofs.Ytiimjppceobkfaa

namespace Go.Proofs.Ytiimjppceobkfaa

section
variable {P : Program} {C : Ctx} {S : List Ent} {α : Type} {enc : α → List Value} {M e g c j off s : Nat} {ls : List α} {x : α} {v : Value}
/-- an item that was put there -/
theorem Lds.ownSet [OneCell P s] (hm : entOwn enc M e (some ⟨g, 0, none⟩) c (ls.set j x) ∈ S) (hM : ∀ x, (enc x).length = M) (hj : j < ls.length) (hv : (enc x)[off]? = some v) : Lds P C S s ⟨g, j * M + off, none⟩ v :=
  Lds.own hm hM (by simpa using hj) (by rw [List.getElem_set_self]; exact hv)
theorem Lds.ownSet0 [OneCell P s] (hm : entOwn enc M e (some ⟨g, 0, none⟩) c (ls.set j x) ∈ S) (hM : ∀ x, (enc x).length = M) (hj : j < ls.length) (hv : (enc x)[0]? = some v) : Lds P C S s ⟨g, j * M, none⟩ v :=
  Lds.own0 hm hM (by simpa using hj) (by rw [List.getElem_set_self]; exact hv)
end
structure Pr where
  step : Int
  left : Int
  flag : Bool
  number : Int
  k : Int
def Pr.enc (p : Pr) : List Value := [.int .i64 p.step, .int .i64 p.left, .bool p.flag, .int .i64 p.number, .int .i64 p.k]
theorem Pr.enc_mk (a b d e : Int) (c : Bool) : Pr.enc ⟨a, b, c, d, e⟩ = [.int .i64 a, .int .i64 b, .bool c, .int .i64 d, .int .i64 e] := rfl
instance : Inhabited Pr := ⟨⟨0, 0, false, 0, 0⟩⟩
structure Gt where
  who : Int
  inn : Bool
  deriving DecidableEq, Inhabited
def Gt.enc (g : Gt) : List Value := [.int .i64 g.who, .bool g.inn]
structure Ms where
  ps : List Pr
  turn : Int
  inn : Int
  most : Int
  gates : List Gt
def Ms.at (m : Ms) (w : Nat) : Pr := m.ps.getD w default
def enterM (m : Ms) (w : Nat) : Ms := ⟨m.ps, m.turn, m.inn + 1, max m.most (m.inn + 1), m.gates ++ [⟨w, true⟩]⟩
def exitM (m : Ms) (w : Nat) : Ms := ⟨m.ps, m.turn, m.inn - 1, m.most, m.gates ++ [⟨w, false⟩]⟩
def turnM (m : Ms) (t : Int) : Ms := ⟨m.ps, t, m.inn, m.most, m.gates⟩
def putP (m : Ms) (w : Nat) (p : Pr) : Ms := ⟨m.ps.set w p, m.turn, m.inn, m.most, m.gates⟩
def petM (m : Ms) (w : Nat) : Ms :=
  let p := m.at w
  if p.step = 0 then putP m w ⟨p.step + 1, p.left, true, p.number, p.k⟩
  else if p.step = 1 then putP (turnM m (1 - w)) w ⟨p.step + 1, p.left, p.flag, p.number, p.k⟩
  else if p.step = 2 then if (m.at (1 - w)).flag = true ∧ ¬ m.turn = w then m else putP (enterM m w) w ⟨p.step + 1, p.left, p.flag, p.number, p.k⟩
  else if p.step = 3 then putP (exitM m w) w ⟨p.step + 1, p.left, p.flag, p.number, p.k⟩
  else putP m w ⟨0, p.left - 1, false, p.number, p.k⟩
def otherK (k : Int) (w : Nat) : Int := if k = w then k + 1 else k
def maxN (l : List Int) : Int := l.foldl max 0
def bakM (m : Ms) (w : Nat) : Ms :=
  let p := m.at w
  if p.step = 0 then putP m w ⟨p.step + 1, p.left, true, p.number, p.k⟩
  else if p.step = 1 then putP m w ⟨p.step + 1, p.left, p.flag, 1 + maxN (m.ps.map (·.number)), p.k⟩
  else if p.step = 2 then
    if (m.ps.length : Int) ≤ otherK 0 w then putP m w ⟨5, p.left, false, p.number, otherK 0 w⟩ else putP m w ⟨p.step + 1, p.left, false, p.number, otherK 0 w⟩
  else if p.step = 3 then if (m.at p.k.toNat).flag = true then m else putP m w ⟨p.step + 1, p.left, p.flag, p.number, p.k⟩
  else if p.step = 4 then
    if ¬ (m.at p.k.toNat).number = 0 ∧ ((m.at p.k.toNat).number < p.number ∨ (m.at p.k.toNat).number = p.number ∧ p.k < w) then m
    else if otherK (p.k + 1) w < m.ps.length then putP m w ⟨3, p.left, p.flag, p.number, otherK (p.k + 1) w⟩ else putP m w ⟨p.step + 1, p.left, p.flag, p.number, otherK (p.k + 1) w⟩
  else if p.step = 5 then putP (enterM m w) w ⟨p.step + 1, p.left, p.flag, p.number, p.k⟩
  else if p.step = 6 then putP (exitM m w) w ⟨p.step + 1, p.left, p.flag, p.number, p.k⟩
  else putP m w ⟨0, p.left - 1, p.flag, 0, p.k⟩
def aloneB (w : Nat) (fs : List Bool) (k : Nat) : Bool := (List.range k).any fun j => !decide (j = w) && fs.getD j false
def naiM (m : Ms) (w : Nat) : Ms :=
  let p := m.at w
  if p.step = 0 then if aloneB w (m.ps.map (·.flag)) m.ps.length = true then m else putP m w ⟨p.step + 1, p.left, p.flag, p.number, p.k⟩
  else if p.step = 1 then putP m w ⟨p.step + 1, p.left, true, p.number, p.k⟩
  else if p.step = 2 then putP (enterM m w) w ⟨p.step + 1, p.left, p.flag, p.number, p.k⟩
  else if p.step = 3 then putP (exitM m w) w ⟨p.step + 1, p.left, p.flag, p.number, p.k⟩
  else putP m w ⟨0, p.left - 1, false, p.number, p.k⟩
def swaM (m : Ms) (w : Nat) : Ms :=
  let p := m.at w
  if p.step = 0 then if ¬ m.turn = 0 then m else putP (turnM m 1) w ⟨p.step + 1, p.left, p.flag, p.number, p.k⟩
  else if p.step = 1 then putP (enterM m w) w ⟨p.step + 1, p.left, p.flag, p.number, p.k⟩
  else if p.step = 2 then putP (exitM m w) w ⟨p.step + 1, p.left, p.flag, p.number, p.k⟩
  else putP (turnM m 0) w ⟨0, p.left - 1, p.flag, p.number, p.k⟩
def algM (algo : Int) (m : Ms) (w : Nat) : Ms := if algo = 1 then petM m w else if algo = 2 then bakM m w else if algo = 3 then naiM m w else swaM m w
def goM (algo : Int) (m : Ms) (w : Nat) : Ms := if (m.at w).left = 0 then m else algM algo m w

/-! the document -/
inductive Wt | set | unset | give | none | number | inn | out | peterson | door | first | alone | swap
  deriving DecidableEq
structure Wd where
  what : Wt
  whom : Int
  deriving DecidableEq
instance : Inhabited Wd := ⟨⟨.set, 0⟩⟩
def doorsL (w k : Nat) : List Wd := (List.range k).flatMap fun j => if j = w then [] else [⟨.door, (j : Nat)⟩, ⟨.first, (j : Nat)⟩]
def planL (algo : Int) (n w : Nat) : List Wd :=
  if algo = 1 then [⟨.set, 0⟩, ⟨.give, 1 - w⟩, ⟨.peterson, 1 - w⟩, ⟨.out, 0⟩, ⟨.unset, 0⟩]
  else if algo = 2 then [⟨.set, 0⟩, ⟨.number, 0⟩, ⟨.unset, 0⟩] ++ doorsL w n ++ [⟨.inn, 0⟩, ⟨.out, 0⟩, ⟨.none, 0⟩]
  else if algo = 3 then [⟨.alone, 0⟩, ⟨.set, 0⟩, ⟨.inn, 0⟩, ⟨.out, 0⟩, ⟨.unset, 0⟩]
  else [⟨.swap, 0⟩, ⟨.inn, 0⟩, ⟨.out, 0⟩, ⟨.give, 0⟩]
structure Rs where
  flag : List Bool
  number : List Int
  had : List Int
  turn : Int
  most : Int
  D : List (Int × Int)
  out : List Gt
def gateR (s : Rs) (w : Nat) (b : Bool) : Rs :=
  let D' := if b = true then putM s.D w 1 else delM s.D w
  ⟨s.flag, s.number, s.had, s.turn, max s.most D'.length, D', s.out ++ [⟨w, b⟩]⟩
def advR (s : Rs) (w : Nat) : Rs := ⟨s.flag, s.number, s.had.set w (s.had.getD w 0 + 1), s.turn, s.most, s.D, s.out⟩
def wordR (n : Nat) (s : Rs) (w : Nat) (x : Wd) : Rs :=
  match x.what with
  | .set => advR { s with flag := s.flag.set w true } w
  | .unset => advR { s with flag := s.flag.set w false } w
  | .give => advR { s with turn := x.whom } w
  | .none => advR { s with number := s.number.set w 0 } w
  | .number => advR { s with number := s.number.set w (maxN s.number + 1) } w
  | .inn => advR (gateR s w true) w
  | .out => advR (gateR s w false) w
  | .peterson => if s.flag.getD x.whom.toNat false = true ∧ s.turn = x.whom then s else advR (gateR s w true) w
  | .door => if s.flag.getD x.whom.toNat false = true then s else advR s w
  | .first => if 0 < s.number.getD x.whom.toNat 0 ∧ (s.number.getD x.whom.toNat 0 < s.number.getD w 0 ∨ s.number.getD x.whom.toNat 0 = s.number.getD w 0 ∧ x.whom < w) then s else advR s w
  | .alone => if aloneB w s.flag n = true then s else advR s w
  | .swap => if ¬ s.turn = 0 then s else advR { s with turn := 1 } w
def goR (algo turns : Int) (n : Nat) (s : Rs) (w : Nat) : Rs :=
  if s.had.getD w 0 = turns * (planL algo n w).length then s else wordR n s w ((planL algo n w).getD (s.had.getD w 0 % (planL algo n w).length).toNat default)

/-! both together -/
theorem lookM_del {α : Type} : ∀ (D : List (Int × α)) (k x : Int), (D.map (·.1)).Nodup → lookM (delM D k) x = if x = k then none else lookM D x
  | [], k, x, _ => by simp [delM, lookM]
  | p :: D, k, x, h => by
    rw [List.map_cons, List.nodup_cons] at h
    unfold delM
    split
    · rename_i e
      subst e
      by_cases hx : x = p.1
      · subst hx
        rw [if_pos rfl]
        have : ∀ (D : List (Int × α)), p.1 ∉ D.map (·.1) → lookM D p.1 = none := by
          intro D
          induction D with
          | nil => intro _; rfl
          | cons q D ih =>
            intro hq
            simp only [List.map_cons, List.mem_cons, not_or] at hq
            unfold lookM
            rw [if_neg hq.1]
            exact ih hq.2
        exact this D h.1
      · rw [if_neg hx]
        show _ = if x = p.1 then some p.2 else lookM D x
        rw [if_neg hx]
    · rename_i e
      unfold lookM
      rw [lookM_del D k x h.2]
      by_cases hx : x = p.1
      · subst hx
        rw [if_pos rfl, if_neg (fun e2 => e e2.symm), if_pos rfl]
      · rw [if_neg hx, if_neg hx]
theorem del_keys {α : Type} : ∀ (D : List (Int × α)) (k : Int), ((delM D k).map (·.1)).Sublist (D.map (·.1))
  | [], _ => by simp [delM]
  | p :: D, k => by
    unfold delM
    split
    · simp
    · simp only [List.map_cons]; exact (del_keys D k).cons_cons _
theorem del_len {α : Type} : ∀ (D : List (Int × α)) (k : Int), (lookM D k).isSome = true → (delM D k).length + 1 = D.length
  | [], _, h => by simp [lookM] at h
  | p :: D, k, h => by
    unfold delM
    unfold lookM at h
    split
    · simp
    · rename_i e
      rw [if_neg e] at h
      have := del_len D k h
      simp only [List.length_cons]; omega
theorem put_keys {α : Type} (v : α) : ∀ (D : List (Int × α)) (k : Int), (lookM D k).isSome = false → putM D k v = D ++ [(k, v)]
  | [], _, _ => rfl
  | p :: D, k, h => by
    unfold putM
    unfold lookM at h
    split
    · rename_i e; rw [if_pos e] at h; cases h
    · rename_i e; rw [if_neg e] at h; rw [put_keys v D k h]; rfl
theorem look_mem {α : Type} : ∀ (D : List (Int × α)) (k : Int), k ∈ D.map (·.1) → (lookM D k).isSome = true
  | [], _, h => by simp at h
  | p :: D, k, h => by
    unfold lookM
    split
    · rfl
    · rename_i e
      simp only [List.map_cons, List.mem_cons] at h
      rcases h with h | h
      · exact absurd h e
      · exact look_mem D k h
def lenP (algo : Int) (n : Nat) : Int := if algo = 2 then 2 * n + 4 else if algo = 4 then 4 else 5
def stepsN (algo : Int) : Int := if algo = 2 then 8 else if algo = 4 then 4 else 5
def outN (algo : Int) : Int := if algo = 2 then 6 else if algo = 4 then 2 else 3
def rkK (k : Int) (w : Nat) : Int := if k < w then k else k - 1
def posC (algo : Int) (n w : Nat) (p : Pr) : Int :=
  if algo = 2 then if p.step ≤ 2 then p.step else if p.step = 3 then 3 + 2 * rkK p.k w else if p.step = 4 then 4 + 2 * rkK p.k w else 2 * n - 4 + p.step else p.step
structure One (algo turns : Int) (n : Nat) (K : Int) (w : Nat) (p : Pr) (f : Bool) (num had : Int) (ins : Bool) : Prop where
  flag : p.flag = f
  number : p.number = num
  num0 : 0 ≤ num
  numK : num ≤ K
  left0 : 0 ≤ p.left
  leftT : p.left ≤ turns
  step0 : 0 ≤ p.step
  stepN : p.step < stepsN algo
  k : algo = 2 → p.step = 3 ∨ p.step = 4 → 0 ≤ p.k ∧ p.k < n ∧ p.k ≠ w
  had : had = (turns - p.left) * lenP algo n + posC algo n w p
  done : p.left = 0 → p.step = 0
  ins : ins = decide (p.step = outN algo)
structure Both (algo turns : Int) (n : Nat) (K : Nat) (m : Ms) (s : Rs) : Prop where
  lp : m.ps.length = n
  lf : s.flag.length = n
  ln : s.number.length = n
  lh : s.had.length = n
  each : ∀ w, w < n → One algo turns n K w (m.at w) (s.flag.getD w false) (s.number.getD w 0) (s.had.getD w 0) (lookM s.D w).isSome
  turn : m.turn = s.turn
  turn1 : algo = 1 → s.turn = 0 ∨ s.turn = 1
  inn : m.inn = s.D.length
  most : m.most = s.most
  mostD : (s.D.length : Int) ≤ s.most
  mostK : s.most ≤ K
  keys : (s.D.map (·.1)).Nodup
  gates : m.gates = s.out
  gatesK : s.out.length ≤ K
theorem gD {α : Type} {l : List α} {w : Nat} (hw : w < l.length) (x d : α) (v : Nat) : (l.set w x).getD v d = if v = w then x else l.getD v d := by
  rw [List.getD_eq_getElem?_getD, List.getElem?_set]
  by_cases e : v = w
  · subst e; simp [hw]
  · rw [if_neg (fun h => e h.symm), if_neg e, List.getD_eq_getElem?_getD]
theorem One.more {algo turns : Int} {n : Nat} {K K' : Int} {w : Nat} {p : Pr} {f : Bool} {num had : Int} {ins : Bool} (h : One algo turns n K w p f num had ins) (hK : K ≤ K') : One algo turns n K' w p f num had ins :=
  ⟨h.flag, h.number, h.num0, by have := h.numK; omega, h.left0, h.leftT, h.step0, h.stepN, h.k, h.had, h.done, h.ins⟩
theorem Both.more {algo turns : Int} {n K : Nat} {m : Ms} {s : Rs} (h : Both algo turns n K m s) : Both algo turns n (K + 1) m s :=
  ⟨h.lp, h.lf, h.ln, h.lh, fun w hw => (h.each w hw).more (by omega), h.turn, h.turn1, h.inn, h.most, h.mostD, by have := h.mostK; omega, h.keys, h.gates, by have := h.gatesK; omega⟩
section
variable {algo turns : Int} {n K : Nat} {m : Ms} {s : Rs} {w : Nat}
/-- one of them goes on, by itself -/
theorem Both.put (h : Both algo turns n K m s) (hw : w < n) {p : Pr} {f : Bool} {num : Int} {t t' : Int} (htt : t = t') (ht : algo = 1 → t' = 0 ∨ t' = 1)
    (ho : One algo turns n (K + 1) w p f num (s.had.getD w 0 + 1) (lookM s.D w).isSome) {F : List Bool} (hF : F = s.flag.set w f) {N : List Int} (hN : N = s.number.set w num) :
    Both algo turns n (K + 1) ⟨m.ps.set w p, t, m.inn, m.most, m.gates⟩ ⟨F, N, s.had.set w (s.had.getD w 0 + 1), t', s.most, s.D, s.out⟩ := by
  subst hF hN htt
  have h1 := h.lp; have h2 := h.lf; have h3 := h.ln; have h4 := h.lh
  refine ⟨by simpa using h1, by simpa using h2, by simpa using h3, by simpa using h4, fun v hv => ?_, rfl, ht, h.inn, h.most, h.mostD, by have := h.mostK; dsimp only; omega, h.keys, h.gates, by have := h.gatesK; dsimp only; omega⟩
  show One _ _ _ _ _ ((m.ps.set w p).getD v default) _ _ _ _
  rw [gD (by omega), gD (by omega), gD (by omega), gD (by omega)]
  by_cases e : v = w
  · subst e; simp only [if_pos]; exact ho
  · simp only [if_neg e]; exact (h.each v hv).more (by omega)
theorem Both.enter (h : Both algo turns n K m s) (hw : w < n) {p : Pr} {f : Bool} {num : Int} (hno : (lookM s.D w).isSome = false)
    (ho : One algo turns n (K + 1) w p f num (s.had.getD w 0 + 1) true) (hF : s.flag.getD w false = f) (hN : s.number.getD w 0 = num) :
    Both algo turns n (K + 1) (putP (enterM m w) w p) (advR (gateR s w true) w) := by
  have h1 := h.lp; have h2 := h.lf; have h3 := h.ln; have h4 := h.lh; have h5 := h.most; have h6 := h.inn; have h7 := h.mostD; have h8 := h.mostK
  have hk := put_keys (1 : Int) s.D w hno
  have hins : s.D.length ≤ K := by omega
  have hD : (putM s.D w 1).length = s.D.length + 1 := by rw [hk]; simp
  refine ⟨by simpa [putP, enterM] using h1, h2, h3, by simpa [advR, gateR] using h4, fun v hv => ?_, h.turn, h.turn1, ?_, ?_, ?_, ?_, ?_, ?_, ?_⟩
  · show One _ _ _ _ _ ((m.ps.set w p).getD v default) (s.flag.getD v false) (s.number.getD v 0) ((s.had.set w (s.had.getD w 0 + 1)).getD v 0) (lookM (putM s.D w 1) v).isSome
    rw [gD (by omega), gD (by omega), lookM_put]
    by_cases e : v = w
    · subst e; simp only [if_pos]; rw [hF, hN]; exact ho
    · rw [if_neg e, if_neg e, if_neg (by omega)]; exact (h.each v hv).more (by omega)
  · show m.inn + 1 = ((putM s.D w 1).length : Int); rw [hD]; omega
  · show max m.most (m.inn + 1) = max s.most ((putM s.D w 1).length : Int); rw [hD, h5, h6]; rfl
  · show ((putM s.D w 1).length : Int) ≤ max s.most ((putM s.D w 1).length : Int); omega
  · show max s.most ((putM s.D w 1).length : Int) ≤ _; rw [hD]; omega
  · show ((putM s.D w 1).map (·.1)).Nodup
    rw [hk, List.map_append, List.nodup_append]
    refine ⟨h.keys, by simp, fun a ha b hb => ?_⟩
    simp only [List.map_cons, List.map_nil, List.mem_singleton] at hb
    subst hb
    intro e
    subst e
    have := look_mem s.D w ha
    rw [hno] at this; cases this
  · show m.gates ++ _ = s.out ++ _; rw [h.gates]
  · have := h.gatesK
    show (s.out ++ [_]).length ≤ _
    rw [List.length_append, List.length_singleton]; omega
theorem Both.leave (h : Both algo turns n K m s) (hw : w < n) {p : Pr} {f : Bool} {num : Int} (hyes : (lookM s.D w).isSome = true)
    (ho : One algo turns n (K + 1) w p f num (s.had.getD w 0 + 1) false) (hF : s.flag.getD w false = f) (hN : s.number.getD w 0 = num) :
    Both algo turns n (K + 1) (putP (exitM m w) w p) (advR (gateR s w false) w) := by
  have h1 := h.lp; have h2 := h.lf; have h3 := h.ln; have h4 := h.lh; have h5 := h.most; have h6 := h.inn; have h7 := h.mostD; have h8 := h.mostK
  have hD := del_len s.D w hyes
  refine ⟨by simpa [putP, exitM] using h1, h2, h3, by simpa [advR, gateR] using h4, fun v hv => ?_, h.turn, h.turn1, ?_, ?_, ?_, ?_, ?_, ?_, ?_⟩
  · show One _ _ _ _ _ ((m.ps.set w p).getD v default) (s.flag.getD v false) (s.number.getD v 0) ((s.had.set w (s.had.getD w 0 + 1)).getD v 0) (lookM (delM s.D w) v).isSome
    rw [gD (by omega), gD (by omega), lookM_del _ _ _ h.keys]
    by_cases e : v = w
    · subst e; simp only [if_pos]; rw [hF, hN]; exact ho
    · rw [if_neg e, if_neg e, if_neg (by omega)]; exact (h.each v hv).more (by omega)
  · show m.inn - 1 = ((delM s.D w).length : Int); omega
  · show m.most = max s.most ((delM s.D w).length : Int); omega
  · show ((delM s.D w).length : Int) ≤ max s.most ((delM s.D w).length : Int); omega
  · show max s.most ((delM s.D w).length : Int) ≤ _; omega
  · exact h.keys.sublist (del_keys _ _)
  · show m.gates ++ _ = s.out ++ _; rw [h.gates]
  · have := h.gatesK
    show (s.out ++ [_]).length ≤ _
    rw [List.length_append, List.length_singleton]; omega
end
theorem plan_len : ∀ n, n ≤ 4 → ∀ w, w < n → (planL 2 n w).length = 2 * n + 4 := by decide
theorem plan_door : ∀ n, n ≤ 4 → ∀ w, w < n → ∀ k, k < n → k ≠ w → (planL 2 n w).getD (3 + 2 * rkK k w).toNat default = ⟨.door, (k : Nat)⟩ ∧ (planL 2 n w).getD (4 + 2 * rkK k w).toNat default = ⟨.first, (k : Nat)⟩ := by decide
theorem plan_ends : ∀ n, n ≤ 4 → ∀ w, w < n → (planL 2 n w).getD 0 default = ⟨.set, 0⟩ ∧ (planL 2 n w).getD 1 default = ⟨.number, 0⟩ ∧ (planL 2 n w).getD 2 default = ⟨.unset, 0⟩ ∧
    (planL 2 n w).getD (2 * n + 1) default = ⟨.inn, 0⟩ ∧ (planL 2 n w).getD (2 * n + 2) default = ⟨.out, 0⟩ ∧ (planL 2 n w).getD (2 * n + 3) default = ⟨.none, 0⟩ := by decide
end Go.Proofs.Ytiimjppceobkfaa
