/- Lemmas for the walks (F, E, Hist4c, Hist5). No condition. -/
import Derived.Test.YtaonijdhmgcbjaaG04
import Derived.Test.YtaonijdhmgcbjaaG03
import Derived.Test.YtaonijdhmgcbjaaG02
set_option linter.unusedSimpArgs false
set_option linter.unusedVariables false
set_option linter.unusedSectionVars false
set_option linter.unnecessarySimpa false
namespace Go.Proofs.Ytaonijdhmgcbjaa
open Go.RowKit

def blks : List Ent → List Nat
  | [] => []
  | e :: S => e.fin ++ blks S
theorem mem_blks {g : Nat} : ∀ {S : List Ent}, g ∈ blks S ↔ ∃ e ∈ S, e.has g
  | [] => by simp [blks]
  | e :: S => by
    have ih := mem_blks (g := g) (S := S)
    rw [blks, List.mem_append, ih, e.hfin]
    simp
section
variable {C : Ctx} {w w' : World} {S S1 S1' R : List Ent}
theorem Mem.anyN (h : Mem C w S) (n : Nat) : Mem ⟨n, C.F, C.w0⟩ w S := ⟨h.keeps, h.holds, h.apart⟩
/-- behind it the rest is as it was -/
theorem Mem.frame {n : Nat} (hw : Mem C w (S1 ++ R)) (ht : Mem ⟨n, blks S1, w⟩ w' S1') : Mem C w' (S1' ++ R) := by
  have hap := List.pairwise_append.1 hw.apart
  have hF : ∀ g ∈ blks S1, g < w.heap.size ∧ (g ∈ C.F ∨ C.w0.heap.size ≤ g) := fun g hg => by
    obtain ⟨e, he, hb⟩ := mem_blks.1 hg
    exact (hw.holds e (by simp [he])).2 g hb
  have hR : ∀ f ∈ R, ∀ g, f.has g → g ∉ blks S1 := fun f hf g hg hm => by
    obtain ⟨e, he, hb⟩ := mem_blks.1 hm
    exact hap.2.2 e he f hf g hb hg
  refine ⟨⟨ht.keeps.os.trans hw.keeps.os, ht.keeps.tape.trans hw.keeps.tape, ht.keeps.output.trans hw.keeps.output, Nat.le_trans hw.keeps.size ht.keeps.size, fun k hk hkF => ?_⟩, fun e he => ?_, ?_⟩
  · refine (ht.keeps.block k (Nat.lt_of_lt_of_le hk hw.keeps.size) fun hm => ?_).trans (hw.keeps.block k hk hkF)
    rcases (hF k hm).2 with h | h
    · exact hkF h
    · omega
  · rcases List.mem_append.1 he with he | he
    · obtain ⟨h1, h2⟩ := ht.holds e he
      refine ⟨h1, fun g hg => ⟨(h2 g hg).1, ?_⟩⟩
      rcases (h2 g hg).2 with h | h
      · exact (hF g h).2
      · exact .inr (Nat.le_trans hw.keeps.size h)
    · obtain ⟨h1, h2⟩ := hw.holds e (by simp [he])
      refine ⟨e.loc w w' (fun g hg => ht.keeps.block g (h2 g hg).1 (hR e he g hg)) h1, fun g hg => ⟨Nat.lt_of_lt_of_le (h2 g hg).1 ht.keeps.size, (h2 g hg).2⟩⟩
  · rw [List.pairwise_append]
    refine ⟨ht.apart, hap.2.1, fun e he f hf g hg hg' => ?_⟩
    rcases ((ht.holds e he).2 g hg).2 with h | h
    · exact hR f hf g hg' h
    · have := ((hw.holds f (by simp [hf])).2 g hg').1
      have h' : w.heap.size ≤ g := h
      omega
end
section
variable {P : Program} {C : Ctx} {Q : Exit → Act → World → Prop} {E : Slots} {S S1 S1' R : List Ent}
variable {d ty : Nat} {ps : String} {af : Array Edge} {g0 : Option (Nat × Bool)} {f : Nat}
/-! function values -/
theorem evs_toArray {a : Act} (ha : Env C.n a E) {xs : List Operand} {vs : List Value} (h : evs E xs = some vs) : xs.toArray.map a.eval = vs.toArray := by
  have := evs_eq ha h
  simp [this]
theorem QS_makeFunc {fn : Fn} {xs ys : List Operand} {vs us : List Value} (hx : evs E xs = some vs) (hy : evs E ys = some us) : QS P C E S (.makeFunc fn xs.toArray ys.toArray) ty (.func fn vs.toArray us.toArray) :=
  QS.of (fun a w ha _ => by
    simp only [execOp, Instr.makeFunc, evs_toArray ha hx, evs_toArray ha hy]; rfl)
theorem run_callV [hf : IsFn P f] {x : Operand} {xs : List Operand} {vs us cs : List Value} {ats : Array TypeId} (hv : evo E x = some (.func (.func f) us.toArray cs.toArray)) (hx : evs E xs = some vs) {a : Act} {w : World} (ha : Env C.n a E) :
    (execOp a.eval ⟨some d, .call ⟨.value x, xs.toArray, ats⟩, ty, ps, af, g0⟩).run P w = .ok (.enter f (us ++ vs ++ cs).toArray) w := by
  have h1 := ha.evo hv
  have h2 := evs_toArray ha hx
  simp only [execOp, resolve, h1, h2, Deferred.ofValue, Sem.run_bind, Sem.run_pure, Result.andThen_ok, invoke]
  have h3 := hf.run (us.toArray ++ vs.toArray ++ cs.toArray) w
  rw [h3]
  simp
/-- a call of a function value that leaves all alone -/
theorem ES_callFV [hf : IsFn P f] {x : Operand} {xs : List Operand} {vs us cs : List Value} {ats : Array TypeId} {v : Value} (hv : evo E x = some (.func (.func f) us.toArray cs.toArray)) (hx : evs E xs = some vs)
    (hc : ∀ w, Mem C w S → Calls P f (us ++ vs ++ cs).toArray w fun e w' => e = .returned v ∧ Below w.heap.size w w') (hd : Nat.ble (d + 1) C.n = true) :
    ES P C E S ⟨some d, .call ⟨.value x, xs.toArray, ats⟩, ty, ps, af, g0⟩ (fun E' S' => E' = (d, v) :: E ∧ S' = S) := by
  refine (ES_enter (fun u T => u = v ∧ T = S) (fun a w ha => run_callV hv hx ha) (fun w hw => (hc w hw).mono fun e w' ⟨he, hb⟩ => ⟨v, _, he, hw.below hb, rfl, rfl⟩) hd).weak (by rintro _ _ ⟨_, ⟨rfl, rfl⟩, rfl⟩; exact ⟨rfl, rfl⟩)
end
/-! what is known, in another order -/
inductive Pick : List Ent → Ent → List Ent → Prop
  | here (e : Ent) (S : List Ent) : Pick (e :: S) e S
  | there {S R : List Ent} {e : Ent} (f : Ent) (h : Pick S e R) : Pick (f :: S) e (f :: R)
theorem Pick.form {S R : List Ent} {e : Ent} (h : Pick S e R) : ∃ A B, S = A ++ e :: B ∧ R = A ++ B := by
  induction h with
  | here e S => exact ⟨[], S, rfl, rfl⟩
  | there f _ ih => obtain ⟨A, B, rfl, rfl⟩ := ih; exact ⟨f :: A, B, rfl, rfl⟩
inductive Sel : List Ent → List Ent → Prop
  | nil (S : List Ent) : Sel S []
  | cons {S R T : List Ent} {e : Ent} (h : Pick S e R) (t : Sel R T) : Sel S (e :: T)
section
variable {C : Ctx} {w : World} {S R T' : List Ent} {e : Ent}
theorem Mem.pick (hw : Mem C w S) (h : Pick S e R) : Mem C w (e :: R) := by
  obtain ⟨A, B, rfl, rfl⟩ := h.form
  have hap := hw.apart
  rw [List.pairwise_append, List.pairwise_cons] at hap
  obtain ⟨hA, ⟨hB1, hB⟩, hAB⟩ := hap
  refine ⟨hw.keeps, fun f hf => hw.holds f ?_, ?_⟩
  · rcases List.mem_cons.1 hf with rfl | hf
    · simp
    · rcases List.mem_append.1 hf with h | h <;> simp [h]
  · rw [List.pairwise_cons, List.pairwise_append]
    refine ⟨fun f hf g hg hg' => ?_, hA, hB, fun f hf k hk => hAB f hf k (by simp [hk])⟩
    rcases List.mem_append.1 hf with hf | hf
    · exact hAB f hf e (by simp) g hg' hg
    · exact hB1 f hf g hg hg'
theorem Sel.mem : ∀ {S T : List Ent}, Sel S T → ∀ f ∈ T, f ∈ S
  | _, _, .nil _, f, h => by simp at h
  | _, _, .cons h t, f, hf => by
    obtain ⟨A, B, rfl, rfl⟩ := h.form
    rcases List.mem_cons.1 hf with rfl | hf
    · simp
    · rcases List.mem_append.1 (t.mem f hf) with h | h <;> simp [h]
theorem Mem.sel (hw : Mem C w S) (h : Sel S T') : Mem C w T' := by
  induction h with
  | nil S => exact hw.sub (List.nil_sublist _)
  | @cons S R T e h t ih =>
    have h1 := hw.pick h
    have hap := List.pairwise_cons.1 h1.apart
    have h2 := ih (h1.sub (List.sublist_cons_self _ _))
    refine ⟨h2.keeps, fun f hf => ?_, ?_⟩
    · rcases List.mem_cons.1 hf with rfl | hf
      · exact h1.holds f (by simp)
      · exact h2.holds f hf
    · exact List.pairwise_cons.2 ⟨fun f hf => hap.1 f (t.mem f hf), h2.apart⟩
end
/-! a cut: what is known behind a region, said once -/
section
variable {P : Program} {C : Ctx} {Q : Exit → Act → World → Prop} {E : Slots} {S : List Ent}
end
end Go.Proofs.Ytaonijdhmgcbjaa

namespace Go.Proofs.Ytaonijdhmgcbjaa
open Go.RowKit

section
variable {P : Program} {C : Ctx} {E : Slots} {S : List Ent}
theorem Lds.auto {s : Nat} {ad : Addr} {v : Value} (h : Lds P C S s ad v := by first | exact Lds.blk (by first | ((repeat (first | with_reducible exact List.mem_cons_self | with_reducible apply List.mem_cons_of_mem)); done) | (repeat (first | exact List.Mem.head _ | apply List.Mem.tail))) (by first | exact relCells_nV _ _ | exact relCells_atV _ _ _ (by omega) | exact rfl) | exact Lds.whole (by first | ((repeat (first | with_reducible exact List.mem_cons_self | with_reducible apply List.mem_cons_of_mem)); done) | (repeat (first | exact List.Mem.head _ | apply List.Mem.tail))) (by first | rfl | exact relCells_size _ _) | exact Lds.rd1 (by assumption) (by first | assumption | (simp; done)) (by first | assumption | omega) rfl | exact Lds.rd0 (by assumption) (by first | assumption | (simp; done)) (by first | assumption | omega) rfl | exact Lds.rd (by assumption) (by first | assumption | (simp; done)) (by first | assumption | omega) rfl | exact Lds.rdAgg (by assumption) (by intro x; rfl) (by first | assumption | (simp; done)) (by first | assumption | omega) | exact Lds.own1 (by first | ((repeat (first | with_reducible exact List.mem_cons_self | with_reducible apply List.mem_cons_of_mem)); done) | (repeat (first | exact List.Mem.head _ | apply List.Mem.tail))) (by intro x; rfl) (by first | assumption | omega) rfl | exact Lds.own0 (by first | ((repeat (first | with_reducible exact List.mem_cons_self | with_reducible apply List.mem_cons_of_mem)); done) | (repeat (first | exact List.Mem.head _ | apply List.Mem.tail))) (by intro x; rfl) (by first | assumption | omega) rfl | exact Lds.own (by first | ((repeat (first | with_reducible exact List.mem_cons_self | with_reducible apply List.mem_cons_of_mem)); done) | (repeat (first | exact List.Mem.head _ | apply List.Mem.tail))) (by intro x; rfl) (by first | assumption | omega) rfl | exact Lds.ownAgg (by first | ((repeat (first | with_reducible exact List.mem_cons_self | with_reducible apply List.mem_cons_of_mem)); done) | (repeat (first | exact List.Mem.head _ | apply List.Mem.tail))) (by intro x; rfl) (by first | assumption | omega) | exact Lds.rdz (by assumption) (by first | assumption | (simp; done)) (by first | assumption | omega) rfl | fail) : Lds P C S s ad v := h
theorem QS.auto {op : Op} {ty : Nat} {v : Value} (h : QS P C E S op ty v := by first | ((with_reducible apply QS_addWW); exact rfl; exact rfl) | ((with_reducible apply QS_move); exact rfl) | ((with_reducible apply QS_assign); exact rfl) | ((with_reducible apply QS_field); exact rfl; (first | exact Nat.add_zero _ | exact Nat.zero_add _ | exact rfl)) | ((with_reducible apply QS_load); exact rfl; exact Lds.auto) | ((with_reducible apply QS_lss); exact rfl; exact rfl) | ((with_reducible apply QS_eql); exact rfl; exact rfl) | ((with_reducible apply QS_neq); exact rfl; exact rfl) | ((with_reducible apply QS_leq); exact rfl; exact rfl) | ((with_reducible apply QS_gtr); exact rfl; exact rfl) | ((with_reducible apply QS_geq); exact rfl; exact rfl) | ((with_reducible apply QS_not); exact rfl) | ((with_reducible apply QS_add); exact rfl; exact rfl; omega; omega) | ((with_reducible apply QS_sub); exact rfl; exact rfl; omega; omega) | ((with_reducible apply QS_mul); exact rfl; exact rfl; omega; omega) | ((with_reducible apply QS_len); exact rfl) | ((with_reducible apply QS_lenArray); exact rfl) | ((with_reducible apply QS_pick_true); exact rfl; (with_reducible exact rfl); exact rfl) | ((with_reducible apply QS_pick_false); exact rfl; (with_reducible exact rfl); exact rfl) | ((with_reducible apply QS_pick_bool); exact rfl; exact rfl; exact rfl) | ((with_reducible apply QS_pick); exact rfl; exact rfl; exact rfl) | ((with_reducible apply QS_index); exact rfl; exact rfl; omega; (first | exact off_z _ _ | exact off_01 _ | exact off_0m _ _ | exact off_o1 _ _ | exact rfl)) | ((with_reducible apply QS_indexA); exact rfl; exact rfl; omega; (first | exact off_z _ _ | exact off_01 _ | exact off_0m _ _ | exact off_o1 _ _ | exact rfl)) | ((with_reducible apply QS_indexL); exact rfl; exact rfl; exact inferInstance; omega; (first | exact off_z _ _ | exact off_01 _ | exact off_0m _ _ | exact off_o1 _ _ | exact rfl)) | ((with_reducible apply QS_indexAL); exact rfl; exact rfl; exact inferInstance; omega; (first | exact off_z _ _ | exact off_01 _ | exact off_0m _ _ | exact off_o1 _ _ | exact rfl)) | ((with_reducible apply QS_indexZ); exact rfl; exact rfl; omega; omega; (first | exact off_z _ _ | exact off_01 _ | exact off_0m _ _ | exact off_o1 _ _ | exact rfl)) | ((with_reducible apply QS_indexAZ); exact rfl; exact rfl; omega; omega; (first | exact off_z _ _ | exact off_01 _ | exact off_0m _ _ | exact off_o1 _ _ | exact rfl)) | ((with_reducible apply QS_extract); exact rfl; exact rfl) | ((with_reducible apply QS_nilCheck); exact rfl) | ((with_reducible apply QS_max); exact rfl; exact rfl) | ((with_reducible apply QS_min); exact rfl; exact rfl) | ((with_reducible apply QS_convert); exact rfl; omega; omega) | ((with_reducible apply QS_buildF); exact rfl; exact rfl; ((repeat (first | exact IsL.nil | apply IsL.cons | exact IsL.refl _)))) | ((with_reducible apply QS_shr16); exact rfl; exact rfl; (first | assumption | omega | decide | exact Nat.lt_of_le_of_lt (Nat.shiftRight_le _ _) (by first | assumption | omega) | (apply_assumption <;> omega))) | ((with_reducible apply QS_and16); exact rfl; exact rfl; (first | assumption | omega | decide | exact Nat.lt_of_le_of_lt (Nat.shiftRight_le _ _) (by first | assumption | omega) | (apply_assumption <;> omega)); (first | assumption | omega | decide | exact Nat.lt_of_le_of_lt (Nat.shiftRight_le _ _) (by first | assumption | omega) | (apply_assumption <;> omega))) | ((with_reducible apply QS_or16); exact rfl; exact rfl; (first | assumption | omega | decide | exact Nat.lt_of_le_of_lt (Nat.shiftRight_le _ _) (by first | assumption | omega) | (apply_assumption <;> omega)); (first | assumption | omega | decide | exact Nat.lt_of_le_of_lt (Nat.shiftRight_le _ _) (by first | assumption | omega) | (apply_assumption <;> omega))) | ((with_reducible apply QS_andNot16); exact rfl; exact rfl; (first | assumption | omega | decide | exact Nat.lt_of_le_of_lt (Nat.shiftRight_le _ _) (by first | assumption | omega) | (apply_assumption <;> omega)); (first | assumption | omega | decide | exact Nat.lt_of_le_of_lt (Nat.shiftRight_le _ _) (by first | assumption | omega) | (apply_assumption <;> omega))) | ((with_reducible apply QS_shl16); exact rfl; exact rfl; omega) | ((with_reducible apply QS_shr64); exact rfl; exact rfl; (first | assumption | omega | decide | exact Nat.lt_of_le_of_lt (Nat.shiftRight_le _ _) (by first | assumption | omega) | (apply_assumption <;> omega))) | ((with_reducible apply QS_and64); exact rfl; exact rfl; (first | assumption | omega | decide | exact Nat.lt_of_le_of_lt (Nat.shiftRight_le _ _) (by first | assumption | omega) | (apply_assumption <;> omega)); (first | assumption | omega | decide | exact Nat.lt_of_le_of_lt (Nat.shiftRight_le _ _) (by first | assumption | omega) | (apply_assumption <;> omega))) | ((with_reducible apply QS_or64); exact rfl; exact rfl; (first | assumption | omega | decide | exact Nat.lt_of_le_of_lt (Nat.shiftRight_le _ _) (by first | assumption | omega) | (apply_assumption <;> omega)); (first | assumption | omega | decide | exact Nat.lt_of_le_of_lt (Nat.shiftRight_le _ _) (by first | assumption | omega) | (apply_assumption <;> omega))) | ((with_reducible apply QS_shl64); exact rfl; exact rfl; omega) | ((with_reducible apply QS_eqlB); exact rfl; exact rfl) | ((with_reducible apply QS_neqB); exact rfl; exact rfl) | ((with_reducible apply QS_sliceLow); exact rfl; exact rfl; (first | assumption | omega)) | ((with_reducible apply QS_eqlNil); exact rfl; exact rfl) | ((with_reducible apply QS_neqNil); exact rfl; exact rfl) | ((with_reducible apply QS_addW); exact rfl; exact rfl) | ((with_reducible apply QS_subW); exact rfl; exact rfl) | ((with_reducible apply QS_mulW); exact rfl; exact rfl) | ((with_reducible apply QS_lookI); exact rfl; exact rfl; (first | ((repeat (first | with_reducible exact List.mem_cons_self | with_reducible apply List.mem_cons_of_mem)); done) | (repeat (first | exact List.Mem.head _ | apply List.Mem.tail)))) | ((with_reducible apply QS_lookIok); exact rfl; exact rfl; (first | ((repeat (first | with_reducible exact List.mem_cons_self | with_reducible apply List.mem_cons_of_mem)); done) | (repeat (first | exact List.Mem.head _ | apply List.Mem.tail)))) | ((with_reducible apply QS_lookB); exact rfl; exact rfl; (first | ((repeat (first | with_reducible exact List.mem_cons_self | with_reducible apply List.mem_cons_of_mem)); done) | (repeat (first | exact List.Mem.head _ | apply List.Mem.tail)))) | ((with_reducible apply QS_lookBok); exact rfl; exact rfl; (first | ((repeat (first | with_reducible exact List.mem_cons_self | with_reducible apply List.mem_cons_of_mem)); done) | (repeat (first | exact List.Mem.head _ | apply List.Mem.tail)))) | ((with_reducible apply QS_lenMap); exact rfl; (first | ((repeat (first | with_reducible exact List.mem_cons_self | with_reducible apply List.mem_cons_of_mem)); done) | (repeat (first | exact List.Mem.head _ | apply List.Mem.tail)))) | ((with_reducible apply QS_makeFunc); exact rfl; exact rfl) | fail) : QS P C E S op ty v := h
theorem ES.auto {o : Oper} {N : Slots → List Ent → Prop} (h : ES P C E S o N := by first | ((with_reducible apply ES_alloc); (first | exact cells_agg _ | exact cellsL (by (repeat (first | exact IsL.nil | apply IsL.cons | exact IsL.refl _))) | exact rfl); exact rfl) | ((with_reducible apply ES_box); exact rfl; (first | exact cells_agg _ | exact cellsL (by (repeat (first | exact IsL.nil | apply IsL.cons | exact IsL.refl _))) | exact rfl); exact rfl) | ((with_reducible apply ES_buildSliceF); exact rfl; exact rfl; exact rfl; exact rfl; exact rfl; ((repeat (first | exact IsL.nil | apply IsL.cons | exact IsL.refl _))); exact rfl) | ((with_reducible apply ES_storeWhole); exact rfl; exact rfl; (first | ((repeat (first | with_reducible exact Upd.here _ _ _ | with_reducible apply Upd.there)); done) | (repeat (first | exact Upd.here _ _ _ | apply Upd.there))); (first | exact rfl | exact relCells_size _ _); (first | exact rfl | exact relCells_size _ _); (first | exact rfl | exact relCells_onesL _ _)) | ((with_reducible apply ES_store); exact rfl; exact rfl; (first | ((repeat (first | with_reducible exact Upd.here _ _ _ | with_reducible apply Upd.there)); done) | (repeat (first | exact Upd.here _ _ _ | apply Upd.there))); (first | exact relCells_set _ _ _ _ (by omega) | exact arrSet (by (repeat (first | exact IsL.nil | apply IsL.cons | exact IsL.refl _))) | rfl); (first | (simp only [relCells_size, List.size_toArray, List.length_cons, List.length_nil]; omega) | (simp [relCells_size]; done) | (simp [relCells_size]; omega)); exact rfl) | ((with_reducible apply ES_storeOwn1); exact rfl; exact rfl; (first | ((repeat (first | with_reducible exact Upd.here _ _ _ | with_reducible apply Upd.there)); done) | (repeat (first | exact Upd.here _ _ _ | apply Upd.there))); exact fun _ => rfl; (first | exact List.getElem?_set_self (by first | assumption | omega) | exact List.getElem?_eq_getElem (by first | assumption | omega | (simp only [List.length_set]; omega))); (first | exact rfl  ); exact rfl) | ((with_reducible apply ES_storeOwn0); exact rfl; exact rfl; (first | ((repeat (first | with_reducible exact Upd.here _ _ _ | with_reducible apply Upd.there)); done) | (repeat (first | exact Upd.here _ _ _ | apply Upd.there))); exact fun _ => rfl; (first | exact List.getElem?_set_self (by first | assumption | omega) | exact List.getElem?_eq_getElem (by first | assumption | omega | (simp only [List.length_set]; omega))); decide; (first | exact rfl  ); exact rfl) | ((with_reducible apply ES_storeOwn); exact rfl; exact rfl; (first | ((repeat (first | with_reducible exact Upd.here _ _ _ | with_reducible apply Upd.there)); done) | (repeat (first | exact Upd.here _ _ _ | apply Upd.there))); exact fun _ => rfl; (first | exact List.getElem?_set_self (by first | assumption | omega) | exact List.getElem?_eq_getElem (by first | assumption | omega | (simp only [List.length_set]; omega))); decide; (first | exact rfl  ); exact rfl) | ((with_reducible apply ES_makeSlice (enc := intEnc) (z0 := 0)); exact rfl; exact rfl; exact rfl; (first | omega | (simp; omega)); decide; exact rfl) | ((with_reducible apply ES_makeSlice (enc := boolEnc) (z0 := false)); exact rfl; exact rfl; exact rfl; (first | omega | (simp; omega)); decide; exact rfl) | ((with_reducible apply ES_makeMapI); exact rfl) | ((with_reducible apply ES_makeMapB); exact rfl) | ((with_reducible apply ES_mapUpdate); exact rfl; exact rfl; (first | ((repeat (first | with_reducible exact Upd.here _ _ _ | with_reducible apply Upd.there)); done) | (repeat (first | exact Upd.here _ _ _ | apply Upd.there))); exact rfl) | fail) : ES P C E S o N := h
/-- what a step leaves to be shown -/
structure Rest (R : Prop) : Prop where
  out : R
/-! one step of a walk: what is left to be shown is the step's own to find -/
theorem GO {p R : Prop} (r : R) (h : Rest R → p := by intro r; first | ((with_reducible (first | apply T_seq | apply T_region | apply TL_nil | apply At_then | apply T_block | apply At_block | apply T_skip | apply T_exit | apply At_then_exit | apply At_block_exit | apply T_ret | apply At_then_ret | apply At_block_ret | apply TD_nil)); exact r.out) | ((with_reducible apply At_block_past); exact rfl; exact r.out) | ((with_reducible apply TL_q); exact QS.auto; exact rfl; exact r.out) | ((with_reducible apply TL_yes); exact rfl; exact rfl; (with_reducible exact rfl); exact r.out) | ((with_reducible apply TL_no); exact rfl; exact rfl; (first | with_reducible exact Bool.not_true.symm | with_reducible exact Bool.not_false.symm); exact rfl; exact r.out) | ((with_reducible apply TL_no_undef); exact rfl; exact rfl; exact rfl; exact r.out)) : p := h ⟨r⟩
theorem GOE {p R : Prop} (r : R) (h : Rest R → p := by intro r; (with_reducible apply TL_e); exact ES.auto; exact rfl; exact r.out) : p := h ⟨r⟩
theorem GO2 {p R T : Prop} (r : R) (s : T) (h : Rest R → Rest T → p := by intro r s; first | ((with_reducible apply T_cond); exact rfl; exact r.out; exact s.out) | ((with_reducible (first | apply TL_guard | apply TD_guard)); exact rfl; exact rfl; (fail_if_success (with_reducible refine imp_lit1 ?_)); (fail_if_success (with_reducible refine imp_lit0)); exact r.out; exact s.out)) : p := h ⟨r⟩ ⟨s⟩
theorem GG {p R : Prop} (r : R) (h : Rest R → p := by intro r; first | ((with_reducible (first | apply TD_q0 | apply TD_q1 | apply TD_q2 | apply TD_q3)); exact QS.auto; exact rfl; exact r.out) | ((with_reducible (first | apply TD_q0y | apply TD_q1y)); exact rfl; exact rfl; (with_reducible exact rfl); exact QS.auto; exact rfl; exact r.out) | ((with_reducible apply TL_q); exact QS.auto; exact rfl; exact r.out) | ((with_reducible (first | apply T_seq | apply T_region | apply TL_nil | apply At_then | apply T_block | apply At_block | apply T_skip | apply T_exit | apply At_then_exit | apply At_block_exit | apply T_ret | apply At_then_ret | apply At_block_ret | apply TD_nil)); exact r.out) | ((with_reducible apply At_block_past); exact rfl; exact r.out) | ((with_reducible apply TD_no); exact rfl; exact rfl; exact rfl; (first | with_reducible exact Bool.not_true.symm | with_reducible exact Bool.not_false.symm); exact rfl; exact r.out) | ((with_reducible apply TD_eno); exact rfl; exact rfl; exact rfl; (first | with_reducible exact Bool.not_true.symm | with_reducible exact Bool.not_false.symm); exact rfl; exact r.out) | ((with_reducible apply TD_noU); exact rfl; exact rfl; exact rfl; exact rfl; exact r.out) | ((with_reducible apply TD_enoU); exact rfl; exact rfl; exact rfl; exact rfl; exact r.out) | ((with_reducible apply TL_yes); exact rfl; exact rfl; (with_reducible exact rfl); exact r.out) | ((with_reducible apply TL_no); exact rfl; exact rfl; (first | with_reducible exact Bool.not_true.symm | with_reducible exact Bool.not_false.symm); exact rfl; exact r.out) | ((with_reducible apply TL_no_undef); exact rfl; exact rfl; exact rfl; exact r.out)) : p := h ⟨r⟩
theorem GE {p R : Prop} (r : R) (h : Rest R → p := by intro r; first | ((with_reducible (first | apply TD_e2 | apply TD_e3)); exact ES.auto; exact rfl; exact r.out) | ((with_reducible apply TL_e); exact ES.auto; exact rfl; exact r.out) | ((with_reducible (first | apply TD_e2y | apply TD_e3y)); exact rfl; exact rfl; (with_reducible exact rfl); exact ES.auto; exact r.out)) : p := h ⟨r⟩
theorem GOF {p R T : Prop} (r : R) (s : T) (h : Rest R → Rest T → p := by (intro r s; (with_reducible apply TD_fork); exact r.out; exact s.out)) : p := h ⟨r⟩ ⟨s⟩
end
theorem SUB {A B : List Ent} (h : A.Sublist B := by (repeat (first | with_reducible exact List.nil_sublist _ | with_reducible exact List.Sublist.refl _ | with_reducible apply List.Sublist.cons_cons | with_reducible apply List.Sublist.cons))) : A.Sublist B := h
theorem SUBS {C : Ctx} {S S' : List Ent} (h : ∀ w, Mem C w S → Mem C w S' := by (intro w hw; exact hw.sub (by first | ((repeat (first | with_reducible exact List.nil_sublist _ | with_reducible exact List.Sublist.refl _ | with_reducible apply List.Sublist.cons_cons | with_reducible apply List.Sublist.cons)); done) | (repeat (first | exact List.nil_sublist _ | exact List.Sublist.refl _ | apply List.Sublist.cons_cons | apply List.Sublist.cons))))) : ∀ w, Mem C w S → Mem C w S' := h
section
variable {P : Program} {C : Ctx} {Q : Exit → Act → World → Prop} {e : Nat} {S0 S : List Ent} {E : Slots} {l : List Oper} {t : Tr} {ty i j k : Nat} {ps : String} {af : Array Edge} {op : Op} {b want : Bool}
theorem TD_e2z {dst : Option Tmp} {N : Slots → List Ent → Prop} (he : ES P C E S ⟨dst, op, ty, ps, af, some (j, want)⟩ N) (hg : dstAt l j = some k ∧ look k E = some (.bool b) ∧ b = want)
    (h : ∀ E' S', N E' S' → S0.Sublist S' ∧ TD P C l Q e S0 t E' S') : TD P C l Q e S0 (.step 2 i ⟨dst, op, ty, ps, af, some (j, want)⟩ t) E S := TD_e2y hg.1 hg.2.1 hg.2.2 he h
theorem TD_e3z {dst : Option Tmp} {N : Slots → List Ent → Prop} (he : ES P C E S ⟨dst, op, ty, ps, af, some (j, want)⟩ N) (hg : dstAt l j = some k ∧ look k E = some (.bool b) ∧ b = want)
    (h : ∀ E' S', N E' S' → TD P C l Q e S0 t E' S') : TD P C l Q e S0 (.step 3 i ⟨dst, op, ty, ps, af, some (j, want)⟩ t) E S := TD_e3y hg.1 hg.2.1 hg.2.2 he h
end
end Go.Proofs.Ytaonijdhmgcbjaa

namespace Go.Proofs.Ytaonijdhmgcbjaa
open Go.RowKit

theorem nthV_rd (t v : Value) (op : Nat → Int) (i : Nat) (h : i < 8) : nthV (rdCells t v op).toList (2 + i) = some (.int .i64 (op i)) := by rw [← nthV_eq]; simpa using rdCells_at t v op i h
theorem rdCells_size (t v : Value) (op : Nat → Int) : (rdCells t v op).size = 10 := by simp [rdCells]
theorem Mem.ownUp {C : Ctx} {S : List Ent} {α : Type} {enc : α → List Value} {M et c : Nat} {ls : List α} {A : Option Addr} {w : World} {B : Nat} (hw : Mem C w S) (hF : ∀ g ∈ C.F, B ≤ g) (hB : B ≤ C.w0.heap.size) (hm : entOwn enc M et A c ls ∈ S) : Own enc M et w B (.slice A ls.length c) ls := by
  obtain ⟨ho, hb⟩ := hw.holds _ hm
  have ho' : Own enc M et w 0 (.slice A ls.length c) ls := ho
  refine ⟨ho'.1, ?_⟩
  rcases ho'.2 with hn | ⟨g, cap, cur, hv, _, rest⟩
  · exact .inl hn
  · refine .inr ⟨g, cap, cur, hv, ?_, rest⟩
    rcases (hb g (by show (Value.slice A ls.length c).ownBlock = some g; rw [hv]; rfl)).2 with h | h
    · exact hF g h
    · omega
theorem Keeps.upto {F : List Nat} {B : Nat} {w w' : World} (h : Keeps F w w') (hF : ∀ g ∈ F, B ≤ g) (hB : B ≤ w.heap.size) : Below B w w' :=
  ⟨h.os, h.tape, h.output, h.size, fun k hk => h.block k (by omega) (fun hm => by have := hF k hm; omega)⟩
set_option maxRecDepth 100000 in
set_option maxHeartbeats 8000000 in
theorem event_call_ok (r : Nat) (T : Option Addr) (c : Nat) (ts : List Int) (v : Value) (op : Nat → Int) (i : Int) (k t : Nat) (kind value : Int) (w : World) (hl : ts.length ≤ 9223372036854775807) (hk : k < 8) (ht : t < ts.length)
    (hb : Blk w r 150 (rdCells (.slice T ts.length c) v op)) (hT : RdInt w T ts) (B : Nat) (hB : B ≤ r) (cs : List Cl) (hcs : cs.length ≤ 1000) (ho : OwnCl w B v cs)
    (hkind : (kind != 0) = true) (hf : fitsB ts[t] kind = true) (ha : argB kind value = true) (hop : op k = 0) (hTB : ∀ b o, T = some ⟨b, o, none⟩ → b < B) :
    Calls Try.prog 68 #[.pointer (some ⟨r, 0, none⟩), .int .i64 i, .agg (Ev.enc ⟨k, t, kind, value⟩).toArray] w fun e w' => ∃ v', e = .returned (.int .i64 0) ∧
      Blk w' r 150 (rdCells (.slice T ts.length c) v' (upz op k (cs.length + 1))) ∧ OwnCl w' B v' (cs ++ [⟨k, t, kind, value, 0, i, -1⟩]) ∧ Below B w w' := by
  have hne := ho.ne hb (by decide)
  have hk0 : kind ≠ 0 := by simpa using hkind
  obtain ⟨A, d, rfl⟩ := Own.form ho
  obtain ⟨b, o, rfl, hb0⟩ := RdE.open hT (by omega)
  have hbB := hTB b o rfl
  have hFb : b ∉ r :: (Value.slice A cs.length d).ownBlock.toList := by
    intro h
    rcases List.mem_cons.1 h with h | h
    · omega
    · have := (World.ownsRow.lt ho b (by simpa using h)).1
      omega
  refine calls_T (S := [entBlk r 150 (rdCells (.slice (some ⟨b, o, none⟩) ts.length c) (.slice A cs.length d) op), entOwn Cl.enc 7 107 A d cs]) (r :: (Value.slice A cs.length d).ownBlock.toList)
    Try.func68 rfl Try.ntmps68 (by simp) ?_ ?_
  · refine ⟨Keeps.refl _ _, ?_, ?_⟩
    · intro e he
      rcases List.mem_cons.1 he with rfl | he
      · exact ⟨hb, fun g hg => by cases hg; exact ⟨hb.lt, .inl (by simp)⟩⟩
      · obtain rfl := List.mem_singleton.1 he
        exact ⟨ho.base, fun g hg => by
          have hg' : (Value.slice A cs.length d).ownBlock = some g := hg
          exact ⟨(World.ownsRow.lt ho g hg').2, .inl (List.mem_cons_of_mem _ (by simp [hg']))⟩⟩
    · refine List.pairwise_cons.2 ⟨fun f hf g hg hg' => ?_, List.pairwise_singleton _ _⟩
      obtain rfl := List.mem_singleton.1 hf
      cases hg
      exact hne hg'
  repeat' (first | ((first | with_reducible (first | apply TL_q | apply TD_q0 | apply TD_q1 | apply TD_q2 | apply TD_q3) | ((with_reducible (first | apply TD_q0y | apply TD_q1y)); exact rfl; exact rfl; (with_reducible exact rfl))); (first | exact QS.auto | ((with_reducible apply QS_load); exact rfl; (first | exact Lds.blk (by first | ((repeat (first | with_reducible exact List.mem_cons_self | with_reducible apply List.mem_cons_of_mem)); done) | (repeat (first | exact List.Mem.head _ | apply List.Mem.tail))) (nthV_rd _ _ _ _ (by omega)) | exact Lds.rd1 (by assumption) (by exact hFb) (by first | assumption | omega) rfl))); exact rfl) | ((with_reducible (first | apply TD_e2z | apply TD_e3z | apply TL_e | apply TD_e2 | apply TD_e3)); (first | exact ES.auto | ((with_reducible apply ES_store); exact rfl; exact rfl; (first | ((repeat (first | with_reducible exact Upd.here _ _ _ | with_reducible apply Upd.there)); done) | (repeat (first | exact Upd.here _ _ _ | apply Upd.there))); (first | exact rdCells_setv _ _ _ _ | exact rdCells_set _ _ _ _ (by omega) _); (first | (simp only [rdCells_size]; omega) | (simp [rdCells_size]; done) | (simp [rdCells_size]; omega)); exact rfl)); (first | exact rfl | exact ⟨rfl, rfl, rfl⟩); (first | (rintro _ _ ⟨rfl, rfl⟩) | (rintro _ _ ⟨g, rfl, rfl⟩) | (rintro _ _ ⟨A', c', rfl, rfl⟩)); (try refine ⟨SUB, ?_⟩)) | (refine GG ?_) | (refine GE ?_; (first | (rintro _ _ ⟨rfl, rfl⟩) | (rintro _ _ ⟨g, rfl, rfl⟩) | (rintro _ _ ⟨A', c', rfl, rfl⟩)); (try refine ⟨SUB, ?_⟩)) | ((refine GO2 ?_ ?_) <;> intro h <;> (try dsimp only at h) <;> (try (repeat (first | with_reducible (replace h := of_decide_eq_true h) | with_reducible (replace h := of_decide_eq_false h) | with_reducible (replace h := bnt h) | with_reducible (replace h := bnf h) | with_reducible (replace h := Int.not_lt.mp h) | with_reducible (replace h := Int.not_le.mp h) | with_reducible (replace h := band_dec h) | with_reducible (replace h := band_decF h) | with_reducible (replace h := bor_dec h) | with_reducible (replace h := bor_decF h)))) <;> (try (exfalso; first | contradiction | omega))) | (refine GOF ?_ ?_) | ((with_reducible apply T_draw (id := 1) 1000 (OT.seq [(0, 0), (1, 1), (0, 2), (0, 3), (0, 4), (1, 5), (0, 6), (0, 7), (0, 8), (0, 9), (1, 10), (0, 11), (0, 12), (0, 13), (0, 14), (0, 16), (0, 17), (0, 18), (1, 15), (1, 19), (0, 20), (0, 21), (0, 22)] .nil)); kernel_rfl; exact rfl; kernel_rfl; (repeat (first | with_reducible exact Blind.body | with_reducible apply Blind.seq | with_reducible apply Blind.block))) | ((with_reducible apply T_draw (id := 3) 1000 (OT.seq [(0, 0), (0, 1), (0, 3), (0, 4), (1, 2), (0, 5), (1, 6), (0, 7)] .nil)); kernel_rfl; exact rfl; kernel_rfl; (repeat (first | with_reducible exact Blind.body | with_reducible apply Blind.seq | with_reducible apply Blind.block))) | ((with_reducible apply T_draw (id := 5) 1000 (OT.seq [(0, 0), (0, 1), (0, 2), (0, 4), (0, 8), (1, 3), (1, 5), (0, 6), (1, 7), (1, 9), (2, 10), (0, 11), (0, 12), (0, 13), (0, 15), (1, 14), (1, 16), (2, 17), (0, 18), (0, 19), (0, 20)] .nil)); kernel_rfl; exact rfl; kernel_rfl; (repeat (first | with_reducible exact Blind.body | with_reducible apply Blind.seq | with_reducible apply Blind.block))) | ((with_reducible apply T_draw (id := 9) 16 (OT.seq [(0, 0), (0, 1), (0, 2), (0, 3), (0, 5), (0, 7), (0, 9), (0, 11), (0, 13), (1, 4), (1, 6), (1, 8), (1, 10), (1, 12), (0, 14), (2, 15), (3, 16), (0, 17), (0, 18), (3, 19)] .nil)); kernel_rfl; exact rfl; kernel_rfl; (repeat (first | with_reducible exact Blind.body | with_reducible apply Blind.seq | with_reducible apply Blind.block))) | ((with_reducible apply T_draw (id := 10) 11 (OT.seq [(0, 0), (0, 1), (0, 3), (0, 4), (0, 5), (0, 8), (0, 9), (1, 2), (1, 6), (0, 7), (0, 10), (3, 11)] .nil)); kernel_rfl; exact rfl; kernel_rfl; (repeat (first | with_reducible exact Blind.body | with_reducible apply Blind.seq | with_reducible apply Blind.block))) | ((with_reducible apply T_draw (id := 15) 1000 (OT.seq [(0, 0), (0, 1), (0, 2), (0, 4), (1, 3), (1, 5), (0, 6), (0, 7), (0, 8), (0, 9), (0, 10), (0, 12), (1, 11), (1, 13), (2, 14), (0, 15), (0, 16)] .nil)); kernel_rfl; exact rfl; kernel_rfl; (repeat (first | with_reducible exact Blind.body | with_reducible apply Blind.seq | with_reducible apply Blind.block))) | ((with_reducible apply T_draw (id := 18) 6 (OT.seq [(0, 0), (0, 1), (0, 3), (0, 4), (1, 2), (0, 5), (3, 6)] .nil)); kernel_rfl; exact rfl; kernel_rfl; (repeat (first | with_reducible exact Blind.body | with_reducible apply Blind.seq | with_reducible apply Blind.block))) | ((with_reducible (first | apply TD_e2z | apply TD_e3z | apply TL_e | apply TD_e2 | apply TD_e3)); ((with_reducible apply ES_callV); exact rfl; (intro w hw; exact Calls.same_below (fits_any _ _ _)); exact rfl); (first | exact rfl | exact ⟨rfl, rfl, rfl⟩); (rintro _ _ ⟨rfl, rfl⟩); (try refine ⟨SUB, ?_⟩)) | ((with_reducible (first | apply TD_e2z | apply TD_e3z | apply TL_e | apply TD_e2 | apply TD_e3)); ((with_reducible apply ES_callV); exact rfl; (intro w hw; exact Calls.same_below (argument_any _ _ _)); exact rfl); (first | exact rfl | exact ⟨rfl, rfl, rfl⟩); (rintro _ _ ⟨rfl, rfl⟩); (try refine ⟨SUB, ?_⟩)) | ((with_reducible (first | apply TD_e2z | apply TD_e3z | apply TL_e | apply TD_e2 | apply TD_e3)); ((with_reducible apply ES_append (enc := Cl.enc) (xs := [(⟨k, t, kind, value, 0, i, -1⟩ : Cl)])); exact rfl; exact rfl; exact Lies.blk (by first | ((repeat (first | with_reducible exact List.mem_cons_self | with_reducible apply List.mem_cons_of_mem)); done) | (repeat (first | exact List.Mem.head _ | apply List.Mem.tail))); exact fun _ => rfl; exact fun _ => rfl; (intro A' c'; first | ((repeat (first | with_reducible exact Upd.here _ _ _ | with_reducible apply Upd.there)); done) | (repeat (first | exact Upd.here _ _ _ | apply Upd.there))); (simp; omega); decide; exact rfl); (first | exact rfl | exact ⟨rfl, rfl, rfl⟩); (rintro _ _ ⟨A', c', rfl, rfl⟩); (try refine ⟨SUB, ?_⟩)))
  · exfalso
    have h1 : fitsB ts[t] kind = false := by assumption
    rw [hf] at h1; cases h1
  · exfalso
    have h1 : argB kind value = false := by assumption
    rw [ha] at h1; cases h1
  · (refine At_ret Try.results68 rfl (fun w' hw => ?_))
    have hF : ∀ g ∈ r :: (Value.slice A cs.length d).ownBlock.toList, B ≤ g := by
      intro g hg
      rcases List.mem_cons.1 hg with rfl | hg
      · exact hB
      · exact (World.ownsRow.lt ho g (by simpa using hg)).1
    have hBw : B ≤ w.heap.size := by have := hb.lt; omega
    have hb' := (hw.holds (entBlk r 150 _) (by first | ((repeat (first | with_reducible exact List.mem_cons_self | with_reducible apply List.mem_cons_of_mem)); done) | (repeat (first | exact List.Mem.head _ | apply List.Mem.tail)))).1
    refine ⟨_, rfl, ?_, hw.ownUp hF hBw (by first | ((repeat (first | with_reducible exact List.mem_cons_self | with_reducible apply List.mem_cons_of_mem)); done) | (repeat (first | exact List.Mem.head _ | apply List.Mem.tail))), hw.keeps.upto hF hBw⟩
    have e : (((cs ++ [(⟨k, t, kind, value, 0, i, -1⟩ : Cl)]).length : Nat) : Int) = (cs.length : Int) + 1 := by simp
    rw [← e]
    exact hb'
end Go.Proofs.Ytaonijdhmgcbjaa

namespace Go.Proofs.Ytaonijdhmgcbjaa
open Go.RowKit

/-- one step of the reader: the error, the calls so far, who is open (1 more than the number of the call) -/
def evP (ts : List Int) (cs : List Cl) (op : Nat → Int) (i : Int) (x : Ev) : Int × List Cl × (Nat → Int) :=
  if formBad ts x = true then (3, cs, op)
  else if x.kind ≠ 0 then
    if (fitsB (ts.getD x.thing.toNat 0) x.kind && argB x.kind x.value) = false then (3, cs, op)
    else if 0 < op x.who.toNat then (5, cs, op)
    else (0, cs ++ [⟨x.who, x.thing, x.kind, x.value, 0, i, -1⟩], upz op x.who.toNat (cs.length + 1))
  else if op x.who.toNat = 0 then (4, cs, op)
  else if (cs.getD (op x.who.toNat - 1).toNat default).thing = x.thing ∧ resB (cs.getD (op x.who.toNat - 1).toNat default).kind x.value = true then
    (0, cs.set (op x.who.toNat - 1).toNat { cs.getD (op x.who.toNat - 1).toNat default with res := x.value, to := i }, upz op x.who.toNat 0)
  else (3, cs, op)
def OpOk (cs : List Cl) (op : Nat → Int) : Prop := ∀ k, k < 8 → 0 ≤ op k ∧ op k ≤ cs.length
theorem evP_ok {ts : List Int} {cs : List Cl} {op : Nat → Int} {i : Int} {x : Ev} (h : OpOk cs op) : OpOk (evP ts cs op i x).2.1 (evP ts cs op i x).2.2 := by
  unfold evP
  repeat' split
  all_goals first | exact h | skip
  · intro k hk
    have := h k hk
    simp only [upz, List.length_append, List.length_singleton]
    split <;> omega
  · intro k hk
    have := h k hk
    simp only [upz, List.length_set]
    split <;> omega

theorem event_any (r : Nat) (T : Option Addr) (c : Nat) (ts : List Int) (v : Value) (op : Nat → Int) (i : Int) (x : Ev) (w : World) (hl : ts.length ≤ 9223372036854775807)
    (hb : Blk w r 150 (rdCells (.slice T ts.length c) v op)) (hT : RdInt w T ts) (B : Nat) (hB : B ≤ r) (cs : List Cl) (hcs : cs.length ≤ 1000) (ho : OwnCl w B v cs) (hop : OpOk cs op) (hTB : 0 < ts.length → ∀ b o, T = some ⟨b, o, none⟩ → b < B) :
    Calls Try.prog 68 #[.pointer (some ⟨r, 0, none⟩), .int .i64 i, .agg (Ev.enc x).toArray] w fun e w' => ∃ v', e = .returned (.int .i64 (evP ts cs op i x).1) ∧
      ((evP ts cs op i x).1 = 0 → Blk w' r 150 (rdCells (.slice T ts.length c) v' (evP ts cs op i x).2.2) ∧ OwnCl w' B v' (evP ts cs op i x).2.1) ∧ Below B w w' := by
  have hBw : B ≤ w.heap.size := by have := hb.lt; omega
  have bad : ∀ z : Int, z ≠ 0 → (evP ts cs op i x).1 = z → (Calls Try.prog 68 #[.pointer (some ⟨r, 0, none⟩), .int .i64 i, .agg (Ev.enc x).toArray] w fun e w' => e = .returned (.int .i64 z) ∧ Below w.heap.size w w') →
      Calls Try.prog 68 #[.pointer (some ⟨r, 0, none⟩), .int .i64 i, .agg (Ev.enc x).toArray] w fun e w' => ∃ v', e = .returned (.int .i64 (evP ts cs op i x).1) ∧
      ((evP ts cs op i x).1 = 0 → Blk w' r 150 (rdCells (.slice T ts.length c) v' (evP ts cs op i x).2.2) ∧ OwnCl w' B v' (evP ts cs op i x).2.1) ∧ Below B w w' := by
    intro z hz he hc
    refine hc.mono fun e w' ⟨h1, h2⟩ => ⟨v, ?_, fun h => absurd (he.symm.trans h) hz, h2.mono hBw⟩
    rw [h1, he]
  by_cases hf : formBad ts x = true
  · exact bad 3 (by decide) (by simp [evP, hf]) (event_form r T c ts v op i x w hl hb hf)
  · obtain ⟨who, thing, kind, value⟩ := x
    have hff := hf
    simp only [formBad, Bool.not_eq_true', Bool.not_eq_false', decide_eq_true_eq, decide_eq_false_iff_not, Bool.and_eq_true, Bool.or_eq_true, Bool.or_eq_false_iff, Bool.and_eq_false_iff, not_or, Int.not_lt, Int.not_le] at hff
    obtain ⟨⟨⟨q1, q2⟩, q3⟩, q4⟩ := hff
    obtain ⟨k, rfl⟩ := Int.eq_ofNat_of_zero_le q1
    obtain ⟨t, rfl⟩ := Int.eq_ofNat_of_zero_le q3
    have hk : k < 8 := by omega
    have ht : t < ts.length := by omega
    have hg : ts.getD t 0 = ts[t] := by simp [ht]
    have hok := hop k hk
    by_cases hkind : kind = 0
    · subst hkind
      by_cases h0 : op k = 0
      · exact bad 4 (by decide) (by simp [evP, hf, h0]) (event_none r T c ts v op i k t value w hl hk ht hb h0)
      · obtain ⟨m, hm⟩ : ∃ m : Nat, op k = (m : Int) + 1 := ⟨(op k - 1).toNat, by omega⟩
        have hmc : m < cs.length := by omega
        have hd : cs.getD m default = cs[m] := by simp [hmc]
        by_cases hth : cs[m].thing = t ∧ resB cs[m].kind value = true
        · have e : evP ts cs op i ⟨k, t, 0, value⟩ = (0, cs.set m { cs[m] with res := value, to := i }, upz op k 0) := by
            simp [evP, hf, hm, hmc, hth, show ¬ (m : Int) + 1 = 0 by omega]
          rw [e]
          exact (event_end_ok r T c ts v op i k t value w hl hk ht hb B hB cs hcs ho m hmc hm hth.1 hth.2).mono fun e w' ⟨h1, h2, h3, h4⟩ => ⟨v, h1, fun _ => ⟨h2, h3⟩, h4⟩
        · refine bad 3 (by decide) (by simp [evP, hf, hm, hmc, hth, show ¬ (m : Int) + 1 = 0 by omega]) (event_end_bad r T c ts v op i k t value w hl hk ht hb B cs hcs ho m hmc hm fun h => ?_)
          cases hr : resB cs[m].kind value
          · rfl
          · exact absurd ⟨h, hr⟩ hth
    · by_cases hfa : (fitsB ts[t] kind && argB kind value) = true
      · have hfa' : fitsB ts[t] kind = true ∧ argB kind value = true := by simpa using hfa
        by_cases h0 : 0 < op k
        · exact bad 5 (by decide) (by simp [evP, hf, hkind, ht, hfa', h0]) (event_twice r T c ts v op i k t kind value w hl hk ht hb hT (by simpa using hkind) hfa'.1 hfa'.2 h0)
        · have e : evP ts cs op i ⟨k, t, kind, value⟩ = (0, cs ++ [⟨k, t, kind, value, 0, i, -1⟩], upz op k (cs.length + 1)) := by
            simp [evP, hf, hkind, ht, hfa', h0]
          rw [e]
          exact (event_call_ok r T c ts v op i k t kind value w hl hk ht hb hT B hB cs hcs ho (by simpa using hkind) hfa'.1 hfa'.2 (by omega) (hTB (by omega))).mono fun e w' ⟨v', h1, h2, h3, h4⟩ => ⟨v', h1, fun _ => ⟨h2, h3⟩, h4⟩
      · have hfb : (fitsB ts[t] kind && argB kind value) = false := by simpa using hfa
        exact bad 3 (by decide) (by simp only [evP, if_neg hf, Int.toNat_natCast, hg, hfb]; simp [hkind]) (event_call_bad r T c ts v op i k t kind value w hl hk ht hb hT (by simpa using hkind) hfb)
instance : Inhabited Ev := ⟨⟨0, 0, 0, 0⟩⟩
def stP (ts : List Int) (l : List Ev) : Nat → List Cl × (Nat → Int)
  | 0 => ([], fun _ => 0)
  | k + 1 => (evP ts (stP ts l k).1 (stP ts l k).2 k (l.getD k default)).2
def erP (ts : List Int) (l : List Ev) (k : Nat) : Int := (evP ts (stP ts l k).1 (stP ts l k).2 k (l.getD k default)).1
theorem stP_ok (ts : List Int) (l : List Ev) : ∀ k, OpOk (stP ts l k).1 (stP ts l k).2
  | 0 => fun k hk => by simp [stP]
  | k + 1 => evP_ok (stP_ok ts l k)
theorem evP_len (ts : List Int) (cs : List Cl) (op : Nat → Int) (i : Int) (x : Ev) : (evP ts cs op i x).2.1.length ≤ cs.length + 1 := by
  unfold evP
  repeat' split
  all_goals simp
theorem stP_len (ts : List Int) (l : List Ev) : ∀ k, (stP ts l k).1.length ≤ k
  | 0 => by simp [stP]
  | k + 1 => by have := stP_len ts l k; have := evP_len ts (stP ts l k).1 (stP ts l k).2 k (l.getD k default); simp only [stP]; omega
/-- the first event that can't be read (their number: there is none) -/
def failP (ts : List Int) (l : List Ev) : Nat := ((List.range l.length).find? fun k => decide (erP ts l k ≠ 0)).getD l.length
def callsP (ts : List Int) (l : List Ev) : List Cl × Int × Int :=
  if typesE ts ≠ 0 then ([], 0, typesE ts)
  else if 200 < l.length then ([], 0, 2)
  else if failP ts l < l.length then ([], failP ts l, erP ts l (failP ts l))
  else ((stP ts l l.length).1, 0, 0)
theorem failP_at {ts : List Int} {l : List Ev} {k : Nat} (hk : k < l.length) (h : ∀ j, j < k → erP ts l j = 0) (he : erP ts l k ≠ 0) : failP ts l = k := by
  unfold failP
  have : (List.range l.length).find? (fun k => decide (erP ts l k ≠ 0)) = some k := by
    rw [List.find?_range_eq_some]
    exact ⟨by simpa using he, by simpa using hk, fun j hj => by simp [h j hj]⟩
  rw [this]; rfl
theorem failP_none {ts : List Int} {l : List Ev} (h : ∀ j, j < l.length → erP ts l j = 0) : failP ts l = l.length := by
  unfold failP
  have : (List.range l.length).find? (fun k => decide (erP ts l k ≠ 0)) = none := by
    rw [List.find?_eq_none]
    intro j hj
    simp [h j (by simpa using hj)]
  rw [this]; rfl

theorem RdEv.at_ {w wr : World} {A : Option Addr} {l : List Ev} (h : RdEv w A l) (hb : Below w.heap.size w wr) (k : Nat) (hk : k < l.length) :
    ∃ b o, A = some ⟨b, o, none⟩ ∧ b < w.heap.size ∧ b < wr.heap.size ∧ wr.cell? ⟨b, o + k * 4, none⟩ = some (.int .i64 l[k].who) ∧ wr.cell? ⟨b, o + k * 4 + 1, none⟩ = some (.int .i64 l[k].thing) ∧ wr.cell? ⟨b, o + k * 4 + 2, none⟩ = some (.int .i64 l[k].kind) ∧ wr.cell? ⟨b, o + k * 4 + 3, none⟩ = some (.int .i64 l[k].value) := by
  obtain ⟨b, o, h1, h2, h3, h4⟩ := RdE.at_ h hb k hk
  exact ⟨b, o, h1, h2, h3, h4 0 _ rfl, h4 1 _ rfl, h4 2 _ rfl, h4 3 _ rfl⟩

set_option maxHeartbeats 2000000 in
theorem calls_any (T A : Option Addr) (ct c : Nat) (ts : List Int) (l : List Ev) (w : World) (hts : ts.length ≤ 9223372036854775807) (hl : l.length ≤ 9223372036854775807) (hT : RdInt w T ts) (hA : RdEv w A l) :
    Calls Try.prog 39 #[.slice T ts.length ct, .slice A l.length c] w fun e w' => ∃ A' c', e = .returned (.tuple #[.slice A' (callsP ts l).1.length c', .int .i64 (callsP ts l).2.1, .int .i64 (callsP ts l).2.2]) ∧ OwnCl w' w.heap.size (.slice A' (callsP ts l).1.length c') (callsP ts l).1 ∧ Below w.heap.size w w' := by
  by_cases hty : typesE ts = 0
  · by_cases h2 : 200 < l.length
    · have he : callsP ts l = ([], 0, 2) := by simp [callsP, hty, h2]
      have He := Lib.hid he
      clear he
      go_enter Try.func39, Try.ntmps39
      go_wp2_with (go_at_call 67; refine (types_any _ _ _ _ hts hT).mono ?_; rintro e w1 ⟨rfl, hb1⟩; rw [hty])
      go_ret3
      rw [He.out]
      exact ⟨none, 0, rfl, Own.nil _ _, hb1⟩
    · have hl2 : l.length ≤ 200 := by omega
      have Hty := Lib.hid hty
      clear h2
      have hTB : Hid (0 < ts.length → ∀ b o, T = some ⟨b, o, none⟩ → b < w.heap.size) := Lib.hid fun h b o e => by
        obtain ⟨b', o', h1, h2⟩ := hT.open h
        rw [e] at h1; cases h1; exact h2
      go_enter Try.func39, Try.ntmps39
      go_wp2_with (go_at_call 67; refine (types_any _ _ _ _ hts hT).mono ?_; rintro e w1 ⟨rfl, hb1⟩; rw [hty])
      have hs1 := hb1.size
      go_loopw [25] (fun i wr => ∃ (k : Nat) (v : Value), k ≤ l.length ∧ i = .int .i64 k ∧ Hid (∀ j, j < k → erP ts l j = 0) ∧ Blk wr w1.heap.size 150 (rdCells (.slice T ts.length ct) v (stP ts l k).2) ∧ OwnCl wr w.heap.size v (stP ts l k).1 ∧ Below w.heap.size w wr) (fun i _ => l.length - (intOf i).toNat)
      case atStart => exact ⟨0, _, by omega, rfl, Lib.hid (by omega), Blk.new _ _ _, Own.nil _ _, by (repeat (first | assumption | exact Below.refl _ _ | refine bel_alloc ?_ _ | refine Below.drew ?_ | refine below_drewN' ?_ _ | (refine bel_set ?_ (by first | (simp; done) | (simp; omega)) _) | (refine bel_row ?_ (by first | (simp; done) | (simp; omega)) _)))⟩
      case round =>
        obtain ⟨k, v, hk, rfl, hno, hblk, hown, hbel⟩ := hrel
        have hlen := stP_len ts l k
        by_cases hlt : k < l.length
        · obtain ⟨b, o, rfl, hb0, hbs, c0, c1, c2, c3⟩ := hA.at_ hbel k hlt
          have hg : l.getD k default = l[k] := by simp [hlt]
          have a5 := hblk.lt
          by_cases he : erP ts l k = 0
          · have hev : (evP ts (stP ts l k).1 (stP ts l k).2 k l[k]).1 = 0 := by rw [← hg]; exact he
            have Hev := Lib.hid hev
            have He := Lib.hid he
            clear hev he
            go_wp2_with (go_at_call 68; refine (event_any _ T ct ts v (stP ts l k).2 k l[k] _ hts (hblk.alloc _) (RdE.below hT (by (repeat (first | assumption | exact Below.refl _ _ | refine bel_alloc ?_ _ | refine Below.drew ?_ | refine below_drewN' ?_ _ | (refine bel_set ?_ (by first | (simp; done) | (simp; omega)) _) | (refine bel_row ?_ (by first | (simp; done) | (simp; omega)) _))))) w.heap.size (by omega) (stP ts l k).1 (by omega) (Own.alloc hown _) (stP_ok ts l k) hTB.out).mono ?_; rintro e w2 ⟨v', he', hst, hbw⟩; rw [Hev.out] at he'; subst he')
            go_roundw
            case rel =>
              have h2 := hst Hev.out
              refine ⟨k + 1, v', by omega, by go_num, Lib.hid (fun j hj => ?_), ?_, ?_, ?_⟩
              · by_cases e : j = k
                · subst e; exact He.out
                · exact hno.out j (by omega)
              · simp only [stP, hg]; exact h2.1
              · simp only [stP, hg]; exact h2.2
              · exact (bel_alloc hbel _).trans hbw
            case measure => simp [intOf]; omega
          · have hev : (evP ts (stP ts l k).1 (stP ts l k).2 k l[k]).1 = erP ts l k := by rw [← hg]; rfl
            have hn : (erP ts l k != 0) = true := by simpa using he
            have hcp : callsP ts l = ([], (k : Int), erP ts l k) := by
              have hf := failP_at hlt hno.out he
              simp only [callsP, Hty.out, hf]
              rw [if_neg (by simp), if_neg (by omega), if_pos hlt]
            have Hev := Lib.hid hev
            have Hcp := Lib.hid hcp
            clear hev hcp he
            go_wp2_with (go_at_call 68; refine (event_any _ T ct ts v (stP ts l k).2 k l[k] _ hts (hblk.alloc _) (RdE.below hT (by (repeat (first | assumption | exact Below.refl _ _ | refine bel_alloc ?_ _ | refine Below.drew ?_ | refine below_drewN' ?_ _ | (refine bel_set ?_ (by first | (simp; done) | (simp; omega)) _) | (refine bel_row ?_ (by first | (simp; done) | (simp; omega)) _))))) w.heap.size (by omega) (stP ts l k).1 (by omega) (Own.alloc hown _) (stP_ok ts l k) hTB.out).mono ?_; rintro e w2 ⟨v', he', hst, hbw⟩; rw [Hev.out] at he'; subst he')
            go_ret3
            rw [Hcp.out]
            exact ⟨none, 0, rfl, Own.nil _ _, (bel_alloc hbel _).trans hbw⟩
        · obtain rfl : k = l.length := by omega
          have hcp : callsP ts l = ((stP ts l l.length).1, 0, 0) := by
            have hf := failP_none hno.out
            simp only [callsP, Hty.out, hf]
            rw [if_neg (by simp), if_neg (by omega), if_neg (by omega)]
          have Hcp := Lib.hid hcp
          obtain ⟨A', c', rfl⟩ := Own.form hown
          have d0 := (hblk.cell 1).trans (rdCells_1 _ _ _)
          have a5 := hblk.lt
          clear hcp
          go_wp2_with (fail)
          go_ret3
          rw [Hcp.out]
          exact ⟨A', c', rfl, hown, hbel⟩
  · have he : callsP ts l = ([], 0, typesE ts) := by simp [callsP, hty]
    have He := Lib.hid he
    have hn : (typesE ts != 0) = true := by simpa using hty
    clear he hty
    go_enter Try.func39, Try.ntmps39
    go_wp2_with (go_at_call 67; refine (types_any _ _ _ _ hts hT).mono ?_; rintro e w1 ⟨rfl, hb1⟩)
    go_ret3
    rw [He.out]
    exact ⟨none, 0, rfl, Own.nil _ _, hb1⟩
end Go.Proofs.Ytaonijdhmgcbjaa
