/- Lemmas for the walks (Obj6, Obj7, ObjC). No condition. -/
import Derived.Test.YtjdckepbihcgfaaGreatDoorG10
import Derived.Test.YtjdckepbihcgfaaGreatDoorG06
set_option linter.unusedSimpArgs false
set_option linter.unusedVariables false
set_option linter.unusedSectionVars false
set_option linter.unnecessarySimpa false
namespace Go.Proofs.YtjdckepbihcgfaaGreatDoor
open Go.RowKit

section
variable {P : Program} {C : Ctx} {E : Slots} {S : List Ent} {t e m g p n c : Nat} {x y : Operand} {ty : TypeId}
theorem QS_sliceHighZ [hs : SliceOf P t e m] {k : IntKind} {j : Nat} {z : Int} (hx : evo E x = some (.slice (some ⟨g, p, none⟩) n c)) (hy : evo E y = some (.int k z)) (hz : z = (j : Nat)) (hj : j ≤ c) :
    QS P C E S (.slice t x none (some y) none) ty (.slice (some ⟨g, p, none⟩) j c) := QS_sliceHigh hx (by rw [hy, hz]) hj
end
section
variable {C : Ctx} {w : World} {S : List Ent} {α : Type} {enc : α → List Value} {M et c g o : Nat} {A : Option Addr} {ls l : List α}
theorem Mem.nilRd (hw : Mem C w S) (A : Option Addr) (hA : A = Option.none) : Mem C w [entRd enc M A ([] : List α)] := by
  subst hA
  refine ⟨hw.keeps, fun f hf => ?_, by simp⟩
  rw [List.mem_singleton] at hf
  subst hf
  exact ⟨RdE.nil _, fun g hg => by cases hg⟩
theorem RdE.drop (h : RdE enc M w (some ⟨g, o, Option.none⟩) l) (k : Nat) : RdE enc M w (some ⟨g, o + k * M, Option.none⟩) (l.drop k) := by
  intro i x hx
  rw [List.getElem?_drop] at hx
  obtain ⟨b, o', he, hb, hc⟩ := h (k + i) x hx
  cases he
  refine ⟨g, o + k * M, rfl, hb, fun j v hv => ?_⟩
  have := hc j v hv
  rwa [Nat.add_mul, ← Nat.add_assoc] at this
theorem Mem.blkToRd {cs : Array Value} (hw : Mem C w S) (hm : entBlk g et cs ∈ S) (ls : List Int) (hcs : cs.toList = ls.map (Value.int .i64)) : Mem C w [entRd intEnc 1 (some ⟨g, 0, Option.none⟩) ls] :=
  hw.toRd hm (fun k hk => by
    have : some g = some k := hk
    cases this; rfl) (by
    intro i x hx
    have hb : Blk w g et cs := (hw.holds _ hm).1
    refine ⟨g, 0, rfl, hb.lt, fun j v hv => ?_⟩
    cases j with
    | zero =>
      have hv' : Value.int .i64 x = v := by simpa [intEnc] using hv
      rw [hb.cell, ← hv', Nat.zero_add, Nat.mul_one, Nat.add_zero, ← Array.getElem?_toList, hcs, List.getElem?_map, hx]; rfl
    | succ j => simp [intEnc] at hv)
end
def stepV (R : Res) (x : Option Addr × Nat) : Value := .tuple #[.slice x.1 R.1.length x.2, .int .i64 R.2.1, .int .i64 R.2.2]
/-- what a step says -/
def StepSays (f : Nat) (typ : Int) : Prop := ∀ (A : Option Addr) (c : Nat) (s : List Int) (kind a : Int) (w : World), validS typ s = true → s.length ≤ 50 → Mem ⟨0, blks [entOwn intEnc 1 3 A c s], w⟩ w [entOwn intEnc 1 3 A c s] →
  Calls Tryz.prog f #[.agg #[], .slice A s.length c, .int .i64 kind, .int .i64 a] w fun e w' => ∃ x : Option Addr × Nat, e = .returned (stepV (stepP typ s kind a) x) ∧ Mem ⟨0, blks [entOwn intEnc 1 3 A c s], w⟩ w' [entRd intEnc 1 x.1 (stepP typ s kind a).1]
def putR (s : List Int) (a : Int) : Res := if s.length = 50 then ([], 0, 2) else (s ++ [a], 0, 0)
section
variable (A : Option Addr) (c : Nat) (s : List Int) (a : Int) (w : World) (hl : s.length ≤ 50) (hm : Mem ⟨0, blks [entOwn intEnc 1 3 A c s], w⟩ w [entOwn intEnc 1 3 A c s])
include hl hm
set_option maxRecDepth 100000 in
theorem put_any : Calls Tryz.prog 287 #[.agg #[], .slice A s.length c, .int .i64 a] w fun e w' => ∃ x : Option Addr × Nat, e = .returned (stepV (putR s a) x) ∧ Mem ⟨0, blks [entOwn intEnc 1 3 A c s], w⟩ w' [entRd intEnc 1 x.1 (putR s a).1] := by
  generalize blks [entOwn intEnc 1 3 A c s] = F at hm ⊢
  refine calls_T F Tryz.func287 rfl Tryz.ntmps287 (by simp) (hm.anyN _) ?_
  repeat' (first | ((first | with_reducible (first | apply TL_q | apply TD_q0 | apply TD_q1 | apply TD_q2 | apply TD_q3) | ((with_reducible (first | apply TD_q0y | apply TD_q1y)); exact rfl; exact rfl; (with_reducible exact rfl))); (first | ((with_reducible apply QS_fieldZ); exact rfl; (first | ((repeat (first | with_reducible exact List.mem_cons_self | with_reducible apply List.mem_cons_of_mem)); done) | (repeat (first | exact List.Mem.head _ | apply List.Mem.tail)))) | ((with_reducible apply QS_load); exact rfl; exact Lds.zero _) | exact QS.auto | ((with_reducible apply QS_sliceHighZ (j := s.length - 1)); exact rfl; exact rfl; omega; omega)); exact rfl) | refine GO ?_ | (refine GOE ?_; (first | rintro _ _ ⟨rfl, rfl⟩ | rintro _ _ ⟨g, rfl, rfl⟩ | rintro _ _ ⟨A', c', rfl, rfl⟩)) | (refine GO2 ?_ ?_ <;> (refine Zs ?_; intro h; try exact Zx)) | ((with_reducible (first | apply TD_e2z | apply TD_e3z | apply TL_e | apply TD_e2 | apply TD_e3)); ((with_reducible apply ES_append1 (enc := intEnc)); exact rfl; exact rfl; (repeat (first | with_reducible exact List.mem_cons_self | with_reducible apply List.mem_cons_of_mem)); exact rfl; exact fun _ => rfl; exact fun _ => rfl; (intro A' c'; first | ((repeat (first | with_reducible exact Upd.here _ _ _ | with_reducible apply Upd.there)); done) | (repeat (first | exact Upd.here _ _ _ | apply Upd.there))); (omega); decide; exact rfl); (first | exact rfl | exact ⟨rfl, rfl, rfl⟩); (rintro _ _ ⟨A', c', rfl, rfl⟩); (try refine ⟨SUB, ?_⟩)) | fail)
  · (refine At_ret Tryz.results287 rfl (fun w' hw => ?_))
    have e : putR s a = ([], 0, 2) := by rw [putR, if_pos (by omega)]
    rw [e]
    exact ⟨(none, 0), rfl, (hw.anyN 0).nilRd none rfl⟩
  · (refine At_ret Tryz.results287 rfl (fun w' hw => ?_))
    have e : putR s a = (s ++ [a], 0, 0) := by rw [putR, if_neg (by omega)]
    rw [e]
    exact ⟨(A', c'), rfl, (hw.anyN 0).ownToRd Zm (fun _ => rfl)⟩
end
set_option maxRecDepth 100000 in
theorem registerStep : StepSays 282 1 := by
  intro A c s kind a w hv hl hm
  have hv' : oneB s = true := hv
  have h1 : s.length = 1 := by
    simp only [oneB, Bool.and_eq_true, decide_eq_true_eq] at hv'; exact hv'.1
  obtain ⟨x, rfl⟩ := List.length_eq_one_iff.1 h1
  generalize blks [entOwn intEnc 1 3 A c [x]] = F at hm ⊢
  refine calls_T F Tryz.func282 rfl Tryz.ntmps282 (by simp) (hm.anyN _) ?_
  refine T_own (ls := [x]) Zm (by simp) ?_
  rintro gA rfl
  repeat' (first | ((first | with_reducible (first | apply TL_q | apply TD_q0 | apply TD_q1 | apply TD_q2 | apply TD_q3) | ((with_reducible (first | apply TD_q0y | apply TD_q1y)); exact rfl; exact rfl; (with_reducible exact rfl))); (first | ((with_reducible apply QS_fieldZ); exact rfl; (first | ((repeat (first | with_reducible exact List.mem_cons_self | with_reducible apply List.mem_cons_of_mem)); done) | (repeat (first | exact List.Mem.head _ | apply List.Mem.tail)))) | ((with_reducible apply QS_load); exact rfl; exact Lds.zero _) | exact QS.auto | ((with_reducible apply QS_sliceHighZ (j := s.length - 1)); exact rfl; exact rfl; omega; omega)); exact rfl) | refine GG ?_ | (refine GE ?_; (first | rintro _ _ ⟨rfl, rfl⟩ | rintro _ _ ⟨g, rfl, rfl⟩ | rintro _ _ ⟨A', c', rfl, rfl⟩); (try refine ⟨SUB, ?_⟩)) | (refine GO2 ?_ ?_ <;> (refine Zs ?_; intro h; try exact Zx)) | refine GOF ?_ ?_ | ((with_reducible apply T_draw (id := 3) 1000 (OT.seq [(0, 0), (0, 1), (0, 2), (0, 4), (1, 3), (0, 5), (0, 6)] .nil)); kernel_rfl; exact rfl; kernel_rfl; (repeat (first | with_reducible exact Blind.body | with_reducible apply Blind.seq | with_reducible apply Blind.block))) | fail)
  · (refine At_ret Tryz.results282 rfl (fun w' hw => ?_))
    have e : stepP 1 [x] kind a = ([a], 0, 0) := by simp [stepP, ‹kind = 1›]
    rw [e]
    exact ⟨(_, _), rfl, (hw.anyN 0).blkToRd Zm [a] rfl⟩
  · (refine At_ret Tryz.results282 rfl (fun w' hw => ?_))
    have e : stepP 1 [x] kind a = ([x], x, 0) := by simp [stepP, ‹¬ kind = 1›]
    rw [e]
    exact ⟨(_, _), rfl, (hw.anyN 0).ownToRd Zm (fun _ => rfl)⟩
set_option maxRecDepth 100000 in
theorem ticketStep : StepSays 299 5 := by
  intro A c s kind a w hv hl hm
  have hv' : oneB s = true := hv
  simp only [oneB, Bool.and_eq_true, decide_eq_true_eq] at hv'
  obtain ⟨h1, h2⟩ := hv'
  obtain ⟨x, rfl⟩ := List.length_eq_one_iff.1 h1
  have h3 : 0 ≤ x ∧ x ≤ 1000 := h2
  generalize blks [entOwn intEnc 1 3 A c [x]] = F at hm ⊢
  refine calls_T F Tryz.func299 rfl Tryz.ntmps299 (by simp) (hm.anyN _) ?_
  refine T_own (ls := [x]) Zm (by simp) ?_
  rintro gA rfl
  have hx1 : (-9223372036854775808 : Int) ≤ [x][0] + 1 ∧ [x][0] + 1 ≤ 9223372036854775807 := by
    have : [x][0] = x := rfl
    omega
  have hx2 := hx1.2
  have hx3 := hx1.1
  repeat' (first | ((first | with_reducible (first | apply TL_q | apply TD_q0 | apply TD_q1 | apply TD_q2 | apply TD_q3) | ((with_reducible (first | apply TD_q0y | apply TD_q1y)); exact rfl; exact rfl; (with_reducible exact rfl))); (first | ((with_reducible apply QS_fieldZ); exact rfl; (first | ((repeat (first | with_reducible exact List.mem_cons_self | with_reducible apply List.mem_cons_of_mem)); done) | (repeat (first | exact List.Mem.head _ | apply List.Mem.tail)))) | ((with_reducible apply QS_load); exact rfl; exact Lds.zero _) | exact QS.auto | ((with_reducible apply QS_sliceHighZ (j := s.length - 1)); exact rfl; exact rfl; omega; omega)); exact rfl) | refine GG ?_ | (refine GE ?_; (first | rintro _ _ ⟨rfl, rfl⟩ | rintro _ _ ⟨g, rfl, rfl⟩ | rintro _ _ ⟨A', c', rfl, rfl⟩); (try refine ⟨SUB, ?_⟩)) | (refine GO2 ?_ ?_ <;> (refine Zs ?_; intro h; try exact Zx)) | refine GOF ?_ ?_ | ((with_reducible apply T_draw (id := 3) 1000 (OT.seq [(0, 0), (0, 1), (0, 5), (0, 6), (1, 2), (0, 3), (1, 7), (2, 4), (0, 8), (0, 9), (0, 10)] .nil)); kernel_rfl; exact rfl; kernel_rfl; (repeat (first | with_reducible exact Blind.body | with_reducible apply Blind.seq | with_reducible apply Blind.block))) | fail)
  · (refine At_ret Tryz.results299 rfl (fun w' hw => ?_))
    have e : stepP 5 [x] kind a = ([], 0, 2) := by
      have : x = 1000 := ‹[x][0] = 1000›
      simp [stepP, this]
    rw [e]
    exact ⟨(none, 0), rfl, (hw.anyN 0).nilRd none rfl⟩
  · (refine At_ret Tryz.results299 rfl (fun w' hw => ?_))
    have e : stepP 5 [x] kind a = ([x + 1], x, 0) := by
      have : ¬ x = 1000 := ‹¬ [x][0] = 1000›
      simp [stepP, this]
    rw [e]
    exact ⟨(_, _), rfl, (hw.anyN 0).blkToRd Zm [x + 1] rfl⟩
set_option maxRecDepth 100000 in
theorem queueStep : StepSays 286 2 := by
  intro A c s kind a w hv hl hm
  have hp := fun w h => put_any A c s a w hl h
  generalize hF : blks [entOwn intEnc 1 3 A c s] = F at hm ⊢
  refine calls_T F Tryz.func286 rfl Tryz.ntmps286 (by simp) (hm.anyN _) ?_
  by_cases hk : kind = 3
  · subst hk
    have e : stepP 2 s 3 a = putR s a := by simp [stepP, putR]
    rw [e]
    generalize putR s a = R at *
    repeat' (first | ((first | with_reducible (first | apply TL_q | apply TD_q0 | apply TD_q1 | apply TD_q2 | apply TD_q3) | ((with_reducible (first | apply TD_q0y | apply TD_q1y)); exact rfl; exact rfl; (with_reducible exact rfl))); (first | ((with_reducible apply QS_fieldZ); exact rfl; (first | ((repeat (first | with_reducible exact List.mem_cons_self | with_reducible apply List.mem_cons_of_mem)); done) | (repeat (first | exact List.Mem.head _ | apply List.Mem.tail)))) | ((with_reducible apply QS_load); exact rfl; exact Lds.zero _) | exact QS.auto | ((with_reducible apply QS_sliceHighZ (j := s.length - 1)); exact rfl; exact rfl; omega; omega)); exact rfl) | refine GO ?_ | (refine GOE ?_; (first | rintro _ _ ⟨rfl, rfl⟩ | rintro _ _ ⟨g, rfl, rfl⟩ | rintro _ _ ⟨A', c', rfl, rfl⟩)) | (refine GO2 ?_ ?_ <;> (refine Zs ?_; intro h; try exact Zx)) | ((with_reducible (first | apply TD_e2z | apply TD_e3z | apply TL_e | apply TD_e2 | apply TD_e3)); ((with_reducible apply ES_callX (f := 287) (X := Option Addr × Nat) (S1 := [entOwn intEnc 1 3 A c s]) (stepV R) (fun x => [entRd intEnc 1 x.1 R.1])); exact rfl; exact Zp; (intro x; (try dsimp only); exact Za); (intro w hw; exact hp w ((hw.anyN 0).self 0)); exact rfl); (first | exact rfl | exact ⟨rfl, rfl, rfl⟩); (rintro _ _ ⟨⟨A', c'⟩, rfl, rfl⟩); (try refine ⟨SUB, ?_⟩)) | fail)
    (refine At_ret Tryz.results286 rfl (fun w' hw => ?_))
    exact ⟨(A', c'), rfl, (hw.anyN 0).sub (by first | ((repeat (first | with_reducible exact List.nil_sublist _ | with_reducible exact List.Sublist.refl _ | with_reducible apply List.Sublist.cons_cons | with_reducible apply List.Sublist.cons)); done) | (repeat (first | exact List.nil_sublist _ | exact List.Sublist.refl _ | apply List.Sublist.cons_cons | apply List.Sublist.cons)))⟩
  · cases hs : s with
    | nil =>
      subst hs
      have e : stepP 2 [] kind a = ([], -1, 0) := by simp [stepP, hk]
      rw [e]
      repeat' (first | ((first | with_reducible (first | apply TL_q | apply TD_q0 | apply TD_q1 | apply TD_q2 | apply TD_q3) | ((with_reducible (first | apply TD_q0y | apply TD_q1y)); exact rfl; exact rfl; (with_reducible exact rfl))); (first | ((with_reducible apply QS_fieldZ); exact rfl; (first | ((repeat (first | with_reducible exact List.mem_cons_self | with_reducible apply List.mem_cons_of_mem)); done) | (repeat (first | exact List.Mem.head _ | apply List.Mem.tail)))) | ((with_reducible apply QS_load); exact rfl; exact Lds.zero _) | exact QS.auto | ((with_reducible apply QS_sliceHighZ (j := s.length - 1)); exact rfl; exact rfl; omega; omega)); exact rfl) | refine GO ?_ | (refine GOE ?_; (first | rintro _ _ ⟨rfl, rfl⟩ | rintro _ _ ⟨g, rfl, rfl⟩ | rintro _ _ ⟨A', c', rfl, rfl⟩)) | (refine GO2 ?_ ?_ <;> (refine Zs ?_; intro h; try exact Zx)) | fail)
      (refine At_ret Tryz.results286 rfl (fun w' hw => ?_))
      exact ⟨(A, c), rfl, (hw.anyN 0).ownToRd Zm (fun _ => rfl)⟩
    | cons x r =>
      rw [← hs]
      have h0 : 0 < s.length := by rw [hs]; simp
      have e : stepP 2 s kind a = (s.drop 1, s.getD 0 0, 0) := by
        unfold stepP
        rw [if_neg (by decide), if_pos rfl, if_neg hk, if_neg (by omega)]
      rw [e]
      have e1 : (s.drop 1).length = s.length - 1 := by simp
      have e2 : s.getD 0 0 = s[0] := by simp [List.getD_eq_getElem?_getD, h0]
      refine T_own (ls := s) Zm h0 ?_
      rintro gA rfl
      refine T_ownLe (ls := s) Zm fun hc => ?_
      repeat' (first | ((first | with_reducible (first | apply TL_q | apply TD_q0 | apply TD_q1 | apply TD_q2 | apply TD_q3) | ((with_reducible (first | apply TD_q0y | apply TD_q1y)); exact rfl; exact rfl; (with_reducible exact rfl))); (first | ((with_reducible apply QS_fieldZ); exact rfl; (first | ((repeat (first | with_reducible exact List.mem_cons_self | with_reducible apply List.mem_cons_of_mem)); done) | (repeat (first | exact List.Mem.head _ | apply List.Mem.tail)))) | ((with_reducible apply QS_load); exact rfl; exact Lds.zero _) | exact QS.auto | ((with_reducible apply QS_sliceHighZ (j := s.length - 1)); exact rfl; exact rfl; omega; omega)); exact rfl) | refine GG ?_ | (refine GE ?_; (first | rintro _ _ ⟨rfl, rfl⟩ | rintro _ _ ⟨g, rfl, rfl⟩ | rintro _ _ ⟨A', c', rfl, rfl⟩); (try refine ⟨SUB, ?_⟩)) | (refine GO2 ?_ ?_ <;> (refine Zs ?_; intro h; try exact Zx)) | refine GOF ?_ ?_ | ((with_reducible apply T_draw (id := 5) 1000 (OT.seq [(0, 0), (0, 1), (0, 2), (0, 3), (0, 5), (1, 4), (0, 6), (0, 7)] .nil)); kernel_rfl; exact rfl; kernel_rfl; (repeat (first | with_reducible exact Blind.body | with_reducible apply Blind.seq | with_reducible apply Blind.block))) | fail)
      (refine At_ret Tryz.results286 rfl (fun w' hw => ?_))
      refine ⟨(some ⟨gA, if c = 1 then 0 else 0 + 1 * 1, none⟩, c - 1), by rw [stepV, e1, e2]; rfl, ?_⟩
      have hr := hw.ownRd (enc := intEnc) (M := 1) (ls := s) Zm (fun _ => rfl)
      refine (hw.anyN 0).toRd (e := entOwn intEnc 1 3 (some ⟨gA, 0, none⟩) c s) Zm (fun k hk => hk) ?_
      by_cases hc1 : c = 1
      · have hn : s.drop 1 = [] := List.drop_eq_nil_of_le (by omega)
        show RdE intEnc 1 w' _ (s.drop 1)
        rw [hn]
        exact RdE.nil _
      · show RdE intEnc 1 w' (some ⟨gA, if c = 1 then 0 else 0 + 1 * 1, none⟩) (s.drop 1)
        rw [if_neg hc1]
        exact hr.drop 1
set_option maxRecDepth 100000 in
theorem stackStep : StepSays 288 3 := by
  intro A c s kind a w hv hl hm
  have hp := fun w h => put_any A c s a w hl h
  generalize hF : blks [entOwn intEnc 1 3 A c s] = F at hm ⊢
  refine calls_T F Tryz.func288 rfl Tryz.ntmps288 (by simp) (hm.anyN _) ?_
  by_cases hk : kind = 5
  · subst hk
    have e : stepP 3 s 5 a = putR s a := by simp [stepP, putR]
    rw [e]
    generalize putR s a = R at *
    repeat' (first | ((first | with_reducible (first | apply TL_q | apply TD_q0 | apply TD_q1 | apply TD_q2 | apply TD_q3) | ((with_reducible (first | apply TD_q0y | apply TD_q1y)); exact rfl; exact rfl; (with_reducible exact rfl))); (first | ((with_reducible apply QS_fieldZ); exact rfl; (first | ((repeat (first | with_reducible exact List.mem_cons_self | with_reducible apply List.mem_cons_of_mem)); done) | (repeat (first | exact List.Mem.head _ | apply List.Mem.tail)))) | ((with_reducible apply QS_load); exact rfl; exact Lds.zero _) | exact QS.auto | ((with_reducible apply QS_sliceHighZ (j := s.length - 1)); exact rfl; exact rfl; omega; omega)); exact rfl) | refine GO ?_ | (refine GOE ?_; (first | rintro _ _ ⟨rfl, rfl⟩ | rintro _ _ ⟨g, rfl, rfl⟩ | rintro _ _ ⟨A', c', rfl, rfl⟩)) | (refine GO2 ?_ ?_ <;> (refine Zs ?_; intro h; try exact Zx)) | ((with_reducible (first | apply TD_e2z | apply TD_e3z | apply TL_e | apply TD_e2 | apply TD_e3)); ((with_reducible apply ES_callX (f := 287) (X := Option Addr × Nat) (S1 := [entOwn intEnc 1 3 A c s]) (stepV R) (fun x => [entRd intEnc 1 x.1 R.1])); exact rfl; exact Zp; (intro x; (try dsimp only); exact Za); (intro w hw; exact hp w ((hw.anyN 0).self 0)); exact rfl); (first | exact rfl | exact ⟨rfl, rfl, rfl⟩); (rintro _ _ ⟨⟨A', c'⟩, rfl, rfl⟩); (try refine ⟨SUB, ?_⟩)) | fail)
    (refine At_ret Tryz.results288 rfl (fun w' hw => ?_))
    exact ⟨(A', c'), rfl, (hw.anyN 0).sub (by first | ((repeat (first | with_reducible exact List.nil_sublist _ | with_reducible exact List.Sublist.refl _ | with_reducible apply List.Sublist.cons_cons | with_reducible apply List.Sublist.cons)); done) | (repeat (first | exact List.nil_sublist _ | exact List.Sublist.refl _ | apply List.Sublist.cons_cons | apply List.Sublist.cons)))⟩
  · cases hs : s with
    | nil =>
      subst hs
      have e : stepP 3 [] kind a = ([], -1, 0) := by simp [stepP, hk]
      rw [e]
      repeat' (first | ((first | with_reducible (first | apply TL_q | apply TD_q0 | apply TD_q1 | apply TD_q2 | apply TD_q3) | ((with_reducible (first | apply TD_q0y | apply TD_q1y)); exact rfl; exact rfl; (with_reducible exact rfl))); (first | ((with_reducible apply QS_fieldZ); exact rfl; (first | ((repeat (first | with_reducible exact List.mem_cons_self | with_reducible apply List.mem_cons_of_mem)); done) | (repeat (first | exact List.Mem.head _ | apply List.Mem.tail)))) | ((with_reducible apply QS_load); exact rfl; exact Lds.zero _) | exact QS.auto | ((with_reducible apply QS_sliceHighZ (j := s.length - 1)); exact rfl; exact rfl; omega; omega)); exact rfl) | refine GO ?_ | (refine GOE ?_; (first | rintro _ _ ⟨rfl, rfl⟩ | rintro _ _ ⟨g, rfl, rfl⟩ | rintro _ _ ⟨A', c', rfl, rfl⟩)) | (refine GO2 ?_ ?_ <;> (refine Zs ?_; intro h; try exact Zx)) | fail)
      (refine At_ret Tryz.results288 rfl (fun w' hw => ?_))
      exact ⟨(A, c), rfl, (hw.anyN 0).ownToRd Zm (fun _ => rfl)⟩
    | cons x r =>
      rw [← hs]
      have h0 : 0 < s.length := by rw [hs]; simp
      have e : stepP 3 s kind a = (s.take (s.length - 1), s.getD (s.length - 1) 0, 0) := by
        unfold stepP
        rw [if_neg (by decide), if_neg (by decide), if_pos rfl, if_neg hk, if_neg (by omega)]
      rw [e]
      have e1 : (s.take (s.length - 1)).length = s.length - 1 := by simp
      have e2 : s.getD (s.length - 1) 0 = s[s.length - 1] := by simp [List.getD_eq_getElem?_getD, show s.length - 1 < s.length by omega]
      have e3 : ((s.length : Int) - 1).toNat = s.length - 1 := by omega
      refine T_own (ls := s) Zm h0 ?_
      rintro gA rfl
      refine T_ownLe (ls := s) Zm fun hc => ?_
      repeat' (first | ((first | with_reducible (first | apply TL_q | apply TD_q0 | apply TD_q1 | apply TD_q2 | apply TD_q3) | ((with_reducible (first | apply TD_q0y | apply TD_q1y)); exact rfl; exact rfl; (with_reducible exact rfl))); (first | ((with_reducible apply QS_fieldZ); exact rfl; (first | ((repeat (first | with_reducible exact List.mem_cons_self | with_reducible apply List.mem_cons_of_mem)); done) | (repeat (first | exact List.Mem.head _ | apply List.Mem.tail)))) | ((with_reducible apply QS_load); exact rfl; exact Lds.zero _) | exact QS.auto | ((with_reducible apply QS_sliceHighZ (j := s.length - 1)); exact rfl; exact rfl; omega; omega)); exact rfl) | refine GG ?_ | (refine GE ?_; (first | rintro _ _ ⟨rfl, rfl⟩ | rintro _ _ ⟨g, rfl, rfl⟩ | rintro _ _ ⟨A', c', rfl, rfl⟩); (try refine ⟨SUB, ?_⟩)) | (refine GO2 ?_ ?_ <;> (refine Zs ?_; intro h; try exact Zx)) | refine GOF ?_ ?_ | ((with_reducible apply T_draw (id := 2) 1000 (OT.seq [(0, 0), (0, 1), (0, 2), (0, 3), (0, 4), (0, 5), (0, 6), (0, 7), (0, 9), (1, 8), (0, 10), (0, 11)] .nil)); kernel_rfl; exact rfl; kernel_rfl; (repeat (first | with_reducible exact Blind.body | with_reducible apply Blind.seq | with_reducible apply Blind.block))) | fail)
      (refine At_ret Tryz.results288 rfl (fun w' hw => ?_))
      refine ⟨(some ⟨gA, 0, none⟩, c), by rw [stepV, e1, e2]; simp only [e3, resVal], ?_⟩
      have hr := hw.ownRd (enc := intEnc) (M := 1) (ls := s) Zm (fun _ => rfl)
      exact (hw.anyN 0).toRd (e := entOwn intEnc 1 3 (some ⟨gA, 0, none⟩) c s) Zm (fun k hk => hk) (hr.take _)
theorem insert_mem {C : Ctx} {R : List Ent} {w : World} {A : Option Addr} {c : Nat} {ls : List Int} {i vb : Nat} {a : Int} (hw : Mem C w ([entOwn intEnc 1 3 A c ls] ++ R)) (hm : entBlk vb 3 #[.int .i64 a] ∈ R) (hi : i ≤ ls.length) (hl : ls.length ≤ 50) (vc : Nat) :
    Calls Tryz.prog 292 #[.slice A ls.length c, .int .i64 i, .slice (some ⟨vb, 0, none⟩) 1 vc] w fun e w' =>
      ∃ x : Option Addr × Nat, e = .returned (.slice x.1 (insL ls i a).length x.2) ∧ Mem ⟨0, blks [entOwn intEnc 1 3 A c ls], w⟩ w' [entOwn intEnc 1 3 x.1 x.2 (insL ls i a)] := by
  have ho : Own intEnc 1 3 w 0 (.slice A ls.length c) ls := (hw.holds (entOwn intEnc 1 3 A c ls) (by simp)).1
  have hb : Blk w vb 3 #[.int .i64 a] := (hw.holds (entBlk vb 3 #[.int .i64 a]) (by simp [hm])).1
  refine insert_any w A c ls i vb vc a ho hb (fun he => ?_) hi hl
  have hap := (List.pairwise_append.1 hw.apart).2.2 (entOwn intEnc 1 3 A c ls) (by simp) _ hm vb he
  exact hap rfl
set_option maxRecDepth 100000 in
set_option maxHeartbeats 1000000 in
theorem setStep_any : StepSays 289 4 := by
  intro A c s kind a w hv hl hm
  have hv' : ascB s = true ∧ s.all okI = true := by
    have : (ascB s && s.all okI) = true := hv
    rwa [Bool.and_eq_true] at this
  have hs := asc_of hv'.1
  have hb := fun w hA => search_any A c s a w hA (by omega) hs
  have hple := (pos_split hs a).2.2
  have hpc := pos_at (a := a) hs
  have hmm := fun (C : Ctx) (R : List Ent) (w : World) (vb : Nat) (hw : Mem C w ([entOwn intEnc 1 3 A c s] ++ R)) hm => insert_mem (a := a) hw (vb := vb) hm hple hl 1
  have hst : stepP 4 s kind a = if kind = 7 ∧ s.contains a = false ∧ s.length = 50 then ([], 0, 2) else ((setP s kind a).1, (setP s kind a).2, 0) := rfl
  rw [hst]
  unfold setP
  have hins : s.take (posI s a) ++ a :: s.drop (posI s a) = insL s (posI s a) a := rfl
  rw [hins]
  generalize hF : blks [entOwn intEnc 1 3 A c s] = F at hm ⊢
  generalize posI s a = p at *
  generalize hz : s.contains a = z at *
  refine calls_T F Tryz.func289 rfl Tryz.ntmps289 (by simp) (hm.anyN _) ?_
  cases z with
  | true =>
    have hp : p < s.length ∧ s.getD p 0 = a := by
      have := hpc.symm
      rwa [Bool.and_eq_true, decide_eq_true_eq, decide_eq_true_eq] at this
    refine T_own (ls := s) Zm (by omega) ?_
    rintro gA rfl
    refine T_ownLe (ls := s) Zm fun hc => ?_
    have hd := fun w h => delete_any gA c s w p hp.1 h hc
    repeat' (first | ((first | with_reducible (first | apply TL_q | apply TD_q0 | apply TD_q1 | apply TD_q2 | apply TD_q3) | ((with_reducible (first | apply TD_q0y | apply TD_q1y)); exact rfl; exact rfl; (with_reducible exact rfl))); (first | ((with_reducible apply QS_fieldZ); exact rfl; (first | ((repeat (first | with_reducible exact List.mem_cons_self | with_reducible apply List.mem_cons_of_mem)); done) | (repeat (first | exact List.Mem.head _ | apply List.Mem.tail)))) | ((with_reducible apply QS_load); exact rfl; exact Lds.zero _) | exact QS.auto | ((with_reducible apply QS_sliceHighZ (j := s.length - 1)); exact rfl; exact rfl; omega; omega)); exact rfl) | refine GO ?_ | (refine GOE ?_; (first | rintro _ _ ⟨rfl, rfl⟩ | rintro _ _ ⟨g, rfl, rfl⟩ | rintro _ _ ⟨A', c', rfl, rfl⟩)) | (refine GO2 ?_ ?_ <;> (refine Zs ?_; intro h; try exact Zx)) | ((with_reducible (first | apply TD_e2z | apply TD_e3z | apply TL_e | apply TD_e2 | apply TD_e3)); ((with_reducible apply ES_callV (f := 291)); exact rfl; (intro w hw; exact hb w (hw.ownRd Zm (fun _ => rfl))); exact rfl); (first | exact rfl | exact ⟨rfl, rfl, rfl⟩); (rintro _ _ ⟨rfl, rfl⟩); (try refine ⟨SUB, ?_⟩)) | ((with_reducible (first | apply TD_e2z | apply TD_e3z | apply TL_e | apply TD_e2 | apply TD_e3)); ((with_reducible apply ES_callMp (f := 293) (S1 := [entOwn intEnc 1 3 (some ⟨gA, 0, none⟩) c s]) (S1' := [entOwn intEnc 1 3 (some ⟨gA, 0, none⟩) c (s.take p ++ s.drop (p + 1))]) (v := .slice (some ⟨gA, 0, none⟩) (s.take p ++ s.drop (p + 1)).length c)); exact rfl; exact Zp; exact Za; (intro w hw; exact hd w ((hw.anyN 0).self 0)); exact rfl); (first | exact rfl | exact ⟨rfl, rfl, rfl⟩); (rintro _ _ ⟨rfl, rfl⟩); (try refine ⟨SUB, ?_⟩)) | fail)
    all_goals (refine At_ret Tryz.results289 rfl (fun w' hw => ?_))
    · have e : kind = 7 := by assumption
      subst e
      exact ⟨(some ⟨gA, 0, none⟩, c), rfl, (hw.anyN 0).ownToRd Zm (fun _ => rfl)⟩
    · have e : kind = 8 := by assumption
      subst e
      exact ⟨(some ⟨gA, 0, none⟩, c), rfl, (hw.anyN 0).ownToRd Zm (fun _ => rfl)⟩
    · have e7 : ¬ kind = 7 := by assumption
      have e8 : ¬ kind = 8 := by assumption
      rw [if_neg (fun h => e7 h.1), if_pos rfl, if_neg e7, if_neg e8]
      exact ⟨(some ⟨gA, 0, none⟩, c), rfl, (hw.anyN 0).ownToRd Zm (fun _ => rfl)⟩
  | false =>
    repeat' (first | ((first | with_reducible (first | apply TL_q | apply TD_q0 | apply TD_q1 | apply TD_q2 | apply TD_q3) | ((with_reducible (first | apply TD_q0y | apply TD_q1y)); exact rfl; exact rfl; (with_reducible exact rfl))); (first | ((with_reducible apply QS_fieldZ); exact rfl; (first | ((repeat (first | with_reducible exact List.mem_cons_self | with_reducible apply List.mem_cons_of_mem)); done) | (repeat (first | exact List.Mem.head _ | apply List.Mem.tail)))) | ((with_reducible apply QS_load); exact rfl; exact Lds.zero _) | exact QS.auto | ((with_reducible apply QS_sliceHighZ (j := s.length - 1)); exact rfl; exact rfl; omega; omega)); exact rfl) | refine GO ?_ | (refine GOE ?_; (first | rintro _ _ ⟨rfl, rfl⟩ | rintro _ _ ⟨g, rfl, rfl⟩ | rintro _ _ ⟨A', c', rfl, rfl⟩)) | (refine GO2 ?_ ?_ <;> (refine Zs ?_; intro h; try exact Zx)) | ((with_reducible (first | apply TD_e2z | apply TD_e3z | apply TL_e | apply TD_e2 | apply TD_e3)); ((with_reducible apply ES_callV (f := 291)); exact rfl; (intro w hw; exact hb w (hw.ownRd Zm (fun _ => rfl))); exact rfl); (first | exact rfl | exact ⟨rfl, rfl, rfl⟩); (rintro _ _ ⟨rfl, rfl⟩); (try refine ⟨SUB, ?_⟩)) | ((with_reducible (first | apply TD_e2z | apply TD_e3z | apply TL_e | apply TD_e2 | apply TD_e3)); ((with_reducible apply ES_callX (f := 292) (X := Option Addr × Nat) (S1 := [entOwn intEnc 1 3 A c s]) (fun x => .slice x.1 (insL s p a).length x.2) (fun x => [entOwn intEnc 1 3 x.1 x.2 (insL s p a)])); exact rfl; exact Zp; (intro x; (try dsimp only); exact Za); (intro w hw; exact hmm _ _ w _ hw Zm); exact rfl); (first | exact rfl | exact ⟨rfl, rfl, rfl⟩); (rintro _ _ ⟨⟨A', c'⟩, rfl, rfl⟩); (try refine ⟨SUB, ?_⟩)) | fail)
    all_goals (refine At_ret Tryz.results289 rfl (fun w' hw => ?_))
    · rw [if_pos ⟨by assumption, rfl, by omega⟩]
      exact ⟨(none, 0), rfl, (hw.anyN 0).nilRd none rfl⟩
    · have e : kind = 7 := by assumption
      subst e
      rw [if_neg (fun h => by omega), if_neg (by decide), if_pos rfl]
      exact ⟨(A', c'), rfl, (hw.anyN 0).ownToRd Zm (fun _ => rfl)⟩
    · have e7 : ¬ kind = 7 := by assumption
      rw [if_neg (fun h => e7 h.1), if_neg (by decide), if_neg e7]
      exact ⟨(A, c), rfl, (hw.anyN 0).ownToRd Zm (fun _ => rfl)⟩
end Go.Proofs.YtjdckepbihcgfaaGreatDoor

namespace Go.Proofs.YtjdckepbihcgfaaGreatDoor
open Go.RowKit

def stepO (typ : Int) (s : List Int) (kind a : Int) : Res := if chkS typ s = 0 then (if ((kindsL typ).contains kind && argB kind a) = true then stepP typ s kind a else ([], 0, 3)) else ([], 0, chkS typ s)
theorem kinds_fit {typ kind : Int} (h : (kindsL typ).contains kind = true) : fitB typ kind := by
  unfold kindsL at h
  unfold fitB
  repeat' split at h
  all_goals (simp only [List.contains_cons, List.contains_nil, Bool.or_eq_true, beq_iff_eq, Bool.false_eq_true, or_false] at h; try omega)
section
variable (A : Option Addr) (c : Nat) (s : List Int) (typ kind a : Int) (w : World) (hA : RdInt w A s) (hl : s.length ≤ 9223372036854775807)
include hA hl
set_option maxRecDepth 100000 in
set_option maxHeartbeats 8000000 in
theorem objStep_any : Calls Tryz.prog 172 #[.int .i64 typ, .slice A s.length c, .int .i64 kind, .int .i64 a] w fun e w' => ∃ A' c', e = .returned (stepV (stepO typ s kind a) (A', c')) ∧ Own intEnc 1 3 w' w.heap.size (.slice A' (stepO typ s kind a).1.length c') (stepO typ s kind a).1 ∧ Below w.heap.size w w' := by
  have hchk := fun w hA => objCheck_any A c s w hA hl typ
  have hfit := fun w => fits_C typ kind w
  have harg := fun w => argument_C kind a w
  by_cases h0 : chkS typ s = 0
  · have hck := chkS_ok h0
    have hcl := fun w hA => clone_any A c s w hA (by omega)
    have hO : stepO typ s kind a = if ((kindsL typ).contains kind && argB kind a) = true then stepP typ s kind a else ([], 0, 3) := by unfold stepO; rw [if_pos h0]
    rw [hO]
    rw [h0] at hchk
    clear hO
    generalize hz1 : (kindsL typ).contains kind = z1 at *
    generalize hz2 : argB kind a = z2 at *
    by_cases hz : (z1 && z2) = true
    · rw [if_pos hz]
      obtain ⟨rfl, rfl⟩ : z1 = true ∧ z2 = true := by rwa [Bool.and_eq_true] at hz
      have hfb := kinds_fit hz1
      have hRl : (stepP typ s kind a).1.length ≤ 1000 := by
        by_cases he : (stepP typ s kind a).2.2 = 0
        · have := (chkS_ok (step_valid h0 hfb hz2 he)).2.1; omega
        · have := step_bad he
          rw [this]; simp
      rcases typ_cases typ with rfl | rfl | rfl | rfl | rfl | ⟨hb, hv⟩
      · have hof := fun w => of_any 1 w
        rw [show obV 1 = .iface 241 (.agg #[]) from rfl] at hof
        have hstep := fun A c w h => registerStep A c s kind a w hck.2.2 hck.2.1 h
        generalize stepP 1 s kind a = R at *
        refine calls_T (S := []) [] Tryz.func172 rfl Tryz.ntmps172 (by simp) (Mem.nil _) ?_
        repeat' (first | ((first | with_reducible (first | apply TL_q | apply TD_q0 | apply TD_q1 | apply TD_q2 | apply TD_q3) | ((with_reducible (first | apply TD_q0y | apply TD_q1y)); exact rfl; exact rfl; (with_reducible exact rfl))); (first | (first | ((with_reducible apply QS_makeInterface); exact rfl) | ((with_reducible apply QS_ifaceSome); exact rfl; exact rfl) | ((with_reducible apply QS_ifaceNil); exact rfl; exact rfl) | ((with_reducible apply QS_fieldZ); exact rfl; (first | ((repeat (first | with_reducible exact List.mem_cons_self | with_reducible apply List.mem_cons_of_mem)); done) | (repeat (first | exact List.Mem.head _ | apply List.Mem.tail)))) | ((with_reducible apply QS_load); exact rfl; exact Lds.zero _) | exact QS.auto) | ((with_reducible apply QS_nilCheckM); exact rfl; (intro w; kernel_rfl))); exact rfl) | refine GG ?_ | (refine GE ?_; (first | rintro _ _ ⟨rfl, rfl⟩ | rintro _ _ ⟨g, rfl, rfl⟩ | rintro _ _ ⟨A', c', rfl, rfl⟩); (try refine ⟨SUB, ?_⟩)) | (refine GO2 ?_ ?_ <;> (refine Zs ?_; intro h; try exact Zx)) | refine GOF ?_ ?_ | ((with_reducible apply T_draw (id := 6) 1000 (OT.seq [(0, 0), (0, 2), (0, 4), (0, 5), (2, 1), (0, 6), (0, 7), (0, 8), (2, 3), (2, 9), (0, 10), (0, 11), (0, 12), (0, 13), (0, 14), (0, 15), (0, 16)] .nil)); kernel_rfl; exact rfl; kernel_rfl; (repeat (first | with_reducible exact Blind.body | with_reducible apply Blind.seq | with_reducible apply Blind.block))) | ((with_reducible (first | apply TD_e2z | apply TD_e3z | apply TL_e | apply TD_e2 | apply TD_e3)); ((with_reducible apply ES_callV (f := 198)); exact rfl; (intro w hw; exact hchk w (hw.rd rfl hA)); exact rfl); (first | exact rfl | exact ⟨rfl, rfl, rfl⟩); (rintro _ _ ⟨rfl, rfl⟩); (try refine ⟨SUB, ?_⟩)) | ((with_reducible (first | apply TD_e2z | apply TD_e3z | apply TL_e | apply TD_e2 | apply TD_e3)); ((with_reducible apply ES_callV (f := 92)); exact rfl; (intro w hw; exact hfit w); exact rfl); (first | exact rfl | exact ⟨rfl, rfl, rfl⟩); (rintro _ _ ⟨rfl, rfl⟩); (try refine ⟨SUB, ?_⟩)) | ((with_reducible (first | apply TD_e2z | apply TD_e3z | apply TL_e | apply TD_e2 | apply TD_e3)); ((with_reducible apply ES_callV (f := 93)); exact rfl; (intro w hw; exact harg w); exact rfl); (first | exact rfl | exact ⟨rfl, rfl, rfl⟩); (rintro _ _ ⟨rfl, rfl⟩); (try refine ⟨SUB, ?_⟩)) | ((with_reducible (first | apply TD_e2z | apply TD_e3z | apply TL_e | apply TD_e2 | apply TD_e3)); ((with_reducible apply ES_callV (f := 132)); exact rfl; (intro w hw; exact hof w); exact rfl); (first | exact rfl | exact ⟨rfl, rfl, rfl⟩); (rintro _ _ ⟨rfl, rfl⟩); (try refine ⟨SUB, ?_⟩)) | ((with_reducible (first | apply TD_e2z | apply TD_e3z | apply TL_e | apply TD_e2 | apply TD_e3)); ((with_reducible apply ES_callOwn (f := 199)); exact rfl; (intro w hw; exact hcl w (hw.rd rfl hA)); exact rfl); (first | exact rfl | exact ⟨rfl, rfl, rfl⟩); (rintro _ _ ⟨A1, c1, rfl, rfl⟩); (try refine ⟨SUB, ?_⟩)) | ((with_reducible (first | apply TD_e2z | apply TD_e3z | apply TL_e | apply TD_e2 | apply TD_e3)); ((with_reducible apply ES_invokeX (f := 282) (r := .agg #[]) (X := Option Addr × Nat) (S1 := [entOwn intEnc 1 3 A1 c1 s]) (stepV R) (fun x => [entRd intEnc 1 x.1 R.1])); exact rfl; exact ⟨fun w => by kernel_rfl⟩; exact rfl; exact Zp; (intro x; (try dsimp only); exact Za); (intro w hw; exact hstep A1 c1 w ((hw.anyN 0).self 0)); exact rfl); (first | exact rfl | exact ⟨rfl, rfl, rfl⟩); (rintro _ _ ⟨⟨A', c'⟩, rfl, rfl⟩); (try refine ⟨SUB, ?_⟩)) | ((with_reducible (first | apply TD_e2z | apply TD_e3z | apply TL_e | apply TD_e2 | apply TD_e3)); ((with_reducible apply ES_callOwn (f := 199)); exact rfl; (intro w hw; exact clone_any _ _ R.1 w (hw.rdIn Zm) hRl); exact rfl); (first | exact rfl | exact ⟨rfl, rfl, rfl⟩); (rintro _ _ ⟨A2, c2, rfl, rfl⟩); (try refine ⟨SUB, ?_⟩)) | fail)
        (refine At_ret Tryz.results172 rfl (fun w' hw => ?_))
        exact ⟨A2, c2, rfl, hw.ownOut rfl Zm, hw.below0 rfl⟩
      · have hof := fun w => of_any 2 w
        rw [show obV 2 = .iface 244 (.agg #[]) from rfl] at hof
        have hstep := fun A c w h => queueStep A c s kind a w hck.2.2 hck.2.1 h
        generalize stepP 2 s kind a = R at *
        refine calls_T (S := []) [] Tryz.func172 rfl Tryz.ntmps172 (by simp) (Mem.nil _) ?_
        repeat' (first | ((first | with_reducible (first | apply TL_q | apply TD_q0 | apply TD_q1 | apply TD_q2 | apply TD_q3) | ((with_reducible (first | apply TD_q0y | apply TD_q1y)); exact rfl; exact rfl; (with_reducible exact rfl))); (first | (first | ((with_reducible apply QS_makeInterface); exact rfl) | ((with_reducible apply QS_ifaceSome); exact rfl; exact rfl) | ((with_reducible apply QS_ifaceNil); exact rfl; exact rfl) | ((with_reducible apply QS_fieldZ); exact rfl; (first | ((repeat (first | with_reducible exact List.mem_cons_self | with_reducible apply List.mem_cons_of_mem)); done) | (repeat (first | exact List.Mem.head _ | apply List.Mem.tail)))) | ((with_reducible apply QS_load); exact rfl; exact Lds.zero _) | exact QS.auto) | ((with_reducible apply QS_nilCheckM); exact rfl; (intro w; kernel_rfl))); exact rfl) | refine GG ?_ | (refine GE ?_; (first | rintro _ _ ⟨rfl, rfl⟩ | rintro _ _ ⟨g, rfl, rfl⟩ | rintro _ _ ⟨A', c', rfl, rfl⟩); (try refine ⟨SUB, ?_⟩)) | (refine GO2 ?_ ?_ <;> (refine Zs ?_; intro h; try exact Zx)) | refine GOF ?_ ?_ | ((with_reducible apply T_draw (id := 6) 1000 (OT.seq [(0, 0), (0, 2), (0, 4), (0, 5), (2, 1), (0, 6), (0, 7), (0, 8), (2, 3), (2, 9), (0, 10), (0, 11), (0, 12), (0, 13), (0, 14), (0, 15), (0, 16)] .nil)); kernel_rfl; exact rfl; kernel_rfl; (repeat (first | with_reducible exact Blind.body | with_reducible apply Blind.seq | with_reducible apply Blind.block))) | ((with_reducible (first | apply TD_e2z | apply TD_e3z | apply TL_e | apply TD_e2 | apply TD_e3)); ((with_reducible apply ES_callV (f := 198)); exact rfl; (intro w hw; exact hchk w (hw.rd rfl hA)); exact rfl); (first | exact rfl | exact ⟨rfl, rfl, rfl⟩); (rintro _ _ ⟨rfl, rfl⟩); (try refine ⟨SUB, ?_⟩)) | ((with_reducible (first | apply TD_e2z | apply TD_e3z | apply TL_e | apply TD_e2 | apply TD_e3)); ((with_reducible apply ES_callV (f := 92)); exact rfl; (intro w hw; exact hfit w); exact rfl); (first | exact rfl | exact ⟨rfl, rfl, rfl⟩); (rintro _ _ ⟨rfl, rfl⟩); (try refine ⟨SUB, ?_⟩)) | ((with_reducible (first | apply TD_e2z | apply TD_e3z | apply TL_e | apply TD_e2 | apply TD_e3)); ((with_reducible apply ES_callV (f := 93)); exact rfl; (intro w hw; exact harg w); exact rfl); (first | exact rfl | exact ⟨rfl, rfl, rfl⟩); (rintro _ _ ⟨rfl, rfl⟩); (try refine ⟨SUB, ?_⟩)) | ((with_reducible (first | apply TD_e2z | apply TD_e3z | apply TL_e | apply TD_e2 | apply TD_e3)); ((with_reducible apply ES_callV (f := 132)); exact rfl; (intro w hw; exact hof w); exact rfl); (first | exact rfl | exact ⟨rfl, rfl, rfl⟩); (rintro _ _ ⟨rfl, rfl⟩); (try refine ⟨SUB, ?_⟩)) | ((with_reducible (first | apply TD_e2z | apply TD_e3z | apply TL_e | apply TD_e2 | apply TD_e3)); ((with_reducible apply ES_callOwn (f := 199)); exact rfl; (intro w hw; exact hcl w (hw.rd rfl hA)); exact rfl); (first | exact rfl | exact ⟨rfl, rfl, rfl⟩); (rintro _ _ ⟨A1, c1, rfl, rfl⟩); (try refine ⟨SUB, ?_⟩)) | ((with_reducible (first | apply TD_e2z | apply TD_e3z | apply TL_e | apply TD_e2 | apply TD_e3)); ((with_reducible apply ES_invokeX (f := 286) (r := .agg #[]) (X := Option Addr × Nat) (S1 := [entOwn intEnc 1 3 A1 c1 s]) (stepV R) (fun x => [entRd intEnc 1 x.1 R.1])); exact rfl; exact ⟨fun w => by kernel_rfl⟩; exact rfl; exact Zp; (intro x; (try dsimp only); exact Za); (intro w hw; exact hstep A1 c1 w ((hw.anyN 0).self 0)); exact rfl); (first | exact rfl | exact ⟨rfl, rfl, rfl⟩); (rintro _ _ ⟨⟨A', c'⟩, rfl, rfl⟩); (try refine ⟨SUB, ?_⟩)) | ((with_reducible (first | apply TD_e2z | apply TD_e3z | apply TL_e | apply TD_e2 | apply TD_e3)); ((with_reducible apply ES_callOwn (f := 199)); exact rfl; (intro w hw; exact clone_any _ _ R.1 w (hw.rdIn Zm) hRl); exact rfl); (first | exact rfl | exact ⟨rfl, rfl, rfl⟩); (rintro _ _ ⟨A2, c2, rfl, rfl⟩); (try refine ⟨SUB, ?_⟩)) | fail)
        (refine At_ret Tryz.results172 rfl (fun w' hw => ?_))
        exact ⟨A2, c2, rfl, hw.ownOut rfl Zm, hw.below0 rfl⟩
      · have hof := fun w => of_any 3 w
        rw [show obV 3 = .iface 245 (.agg #[]) from rfl] at hof
        have hstep := fun A c w h => stackStep A c s kind a w hck.2.2 hck.2.1 h
        generalize stepP 3 s kind a = R at *
        refine calls_T (S := []) [] Tryz.func172 rfl Tryz.ntmps172 (by simp) (Mem.nil _) ?_
        repeat' (first | ((first | with_reducible (first | apply TL_q | apply TD_q0 | apply TD_q1 | apply TD_q2 | apply TD_q3) | ((with_reducible (first | apply TD_q0y | apply TD_q1y)); exact rfl; exact rfl; (with_reducible exact rfl))); (first | (first | ((with_reducible apply QS_makeInterface); exact rfl) | ((with_reducible apply QS_ifaceSome); exact rfl; exact rfl) | ((with_reducible apply QS_ifaceNil); exact rfl; exact rfl) | ((with_reducible apply QS_fieldZ); exact rfl; (first | ((repeat (first | with_reducible exact List.mem_cons_self | with_reducible apply List.mem_cons_of_mem)); done) | (repeat (first | exact List.Mem.head _ | apply List.Mem.tail)))) | ((with_reducible apply QS_load); exact rfl; exact Lds.zero _) | exact QS.auto) | ((with_reducible apply QS_nilCheckM); exact rfl; (intro w; kernel_rfl))); exact rfl) | refine GG ?_ | (refine GE ?_; (first | rintro _ _ ⟨rfl, rfl⟩ | rintro _ _ ⟨g, rfl, rfl⟩ | rintro _ _ ⟨A', c', rfl, rfl⟩); (try refine ⟨SUB, ?_⟩)) | (refine GO2 ?_ ?_ <;> (refine Zs ?_; intro h; try exact Zx)) | refine GOF ?_ ?_ | ((with_reducible apply T_draw (id := 6) 1000 (OT.seq [(0, 0), (0, 2), (0, 4), (0, 5), (2, 1), (0, 6), (0, 7), (0, 8), (2, 3), (2, 9), (0, 10), (0, 11), (0, 12), (0, 13), (0, 14), (0, 15), (0, 16)] .nil)); kernel_rfl; exact rfl; kernel_rfl; (repeat (first | with_reducible exact Blind.body | with_reducible apply Blind.seq | with_reducible apply Blind.block))) | ((with_reducible (first | apply TD_e2z | apply TD_e3z | apply TL_e | apply TD_e2 | apply TD_e3)); ((with_reducible apply ES_callV (f := 198)); exact rfl; (intro w hw; exact hchk w (hw.rd rfl hA)); exact rfl); (first | exact rfl | exact ⟨rfl, rfl, rfl⟩); (rintro _ _ ⟨rfl, rfl⟩); (try refine ⟨SUB, ?_⟩)) | ((with_reducible (first | apply TD_e2z | apply TD_e3z | apply TL_e | apply TD_e2 | apply TD_e3)); ((with_reducible apply ES_callV (f := 92)); exact rfl; (intro w hw; exact hfit w); exact rfl); (first | exact rfl | exact ⟨rfl, rfl, rfl⟩); (rintro _ _ ⟨rfl, rfl⟩); (try refine ⟨SUB, ?_⟩)) | ((with_reducible (first | apply TD_e2z | apply TD_e3z | apply TL_e | apply TD_e2 | apply TD_e3)); ((with_reducible apply ES_callV (f := 93)); exact rfl; (intro w hw; exact harg w); exact rfl); (first | exact rfl | exact ⟨rfl, rfl, rfl⟩); (rintro _ _ ⟨rfl, rfl⟩); (try refine ⟨SUB, ?_⟩)) | ((with_reducible (first | apply TD_e2z | apply TD_e3z | apply TL_e | apply TD_e2 | apply TD_e3)); ((with_reducible apply ES_callV (f := 132)); exact rfl; (intro w hw; exact hof w); exact rfl); (first | exact rfl | exact ⟨rfl, rfl, rfl⟩); (rintro _ _ ⟨rfl, rfl⟩); (try refine ⟨SUB, ?_⟩)) | ((with_reducible (first | apply TD_e2z | apply TD_e3z | apply TL_e | apply TD_e2 | apply TD_e3)); ((with_reducible apply ES_callOwn (f := 199)); exact rfl; (intro w hw; exact hcl w (hw.rd rfl hA)); exact rfl); (first | exact rfl | exact ⟨rfl, rfl, rfl⟩); (rintro _ _ ⟨A1, c1, rfl, rfl⟩); (try refine ⟨SUB, ?_⟩)) | ((with_reducible (first | apply TD_e2z | apply TD_e3z | apply TL_e | apply TD_e2 | apply TD_e3)); ((with_reducible apply ES_invokeX (f := 288) (r := .agg #[]) (X := Option Addr × Nat) (S1 := [entOwn intEnc 1 3 A1 c1 s]) (stepV R) (fun x => [entRd intEnc 1 x.1 R.1])); exact rfl; exact ⟨fun w => by kernel_rfl⟩; exact rfl; exact Zp; (intro x; (try dsimp only); exact Za); (intro w hw; exact hstep A1 c1 w ((hw.anyN 0).self 0)); exact rfl); (first | exact rfl | exact ⟨rfl, rfl, rfl⟩); (rintro _ _ ⟨⟨A', c'⟩, rfl, rfl⟩); (try refine ⟨SUB, ?_⟩)) | ((with_reducible (first | apply TD_e2z | apply TD_e3z | apply TL_e | apply TD_e2 | apply TD_e3)); ((with_reducible apply ES_callOwn (f := 199)); exact rfl; (intro w hw; exact clone_any _ _ R.1 w (hw.rdIn Zm) hRl); exact rfl); (first | exact rfl | exact ⟨rfl, rfl, rfl⟩); (rintro _ _ ⟨A2, c2, rfl, rfl⟩); (try refine ⟨SUB, ?_⟩)) | fail)
        (refine At_ret Tryz.results172 rfl (fun w' hw => ?_))
        exact ⟨A2, c2, rfl, hw.ownOut rfl Zm, hw.below0 rfl⟩
      · have hof := fun w => of_any 4 w
        rw [show obV 4 = .iface 246 (.agg #[]) from rfl] at hof
        have hstep := fun A c w h => setStep_any A c s kind a w hck.2.2 hck.2.1 h
        generalize stepP 4 s kind a = R at *
        refine calls_T (S := []) [] Tryz.func172 rfl Tryz.ntmps172 (by simp) (Mem.nil _) ?_
        repeat' (first | ((first | with_reducible (first | apply TL_q | apply TD_q0 | apply TD_q1 | apply TD_q2 | apply TD_q3) | ((with_reducible (first | apply TD_q0y | apply TD_q1y)); exact rfl; exact rfl; (with_reducible exact rfl))); (first | (first | ((with_reducible apply QS_makeInterface); exact rfl) | ((with_reducible apply QS_ifaceSome); exact rfl; exact rfl) | ((with_reducible apply QS_ifaceNil); exact rfl; exact rfl) | ((with_reducible apply QS_fieldZ); exact rfl; (first | ((repeat (first | with_reducible exact List.mem_cons_self | with_reducible apply List.mem_cons_of_mem)); done) | (repeat (first | exact List.Mem.head _ | apply List.Mem.tail)))) | ((with_reducible apply QS_load); exact rfl; exact Lds.zero _) | exact QS.auto) | ((with_reducible apply QS_nilCheckM); exact rfl; (intro w; kernel_rfl))); exact rfl) | refine GG ?_ | (refine GE ?_; (first | rintro _ _ ⟨rfl, rfl⟩ | rintro _ _ ⟨g, rfl, rfl⟩ | rintro _ _ ⟨A', c', rfl, rfl⟩); (try refine ⟨SUB, ?_⟩)) | (refine GO2 ?_ ?_ <;> (refine Zs ?_; intro h; try exact Zx)) | refine GOF ?_ ?_ | ((with_reducible apply T_draw (id := 6) 1000 (OT.seq [(0, 0), (0, 2), (0, 4), (0, 5), (2, 1), (0, 6), (0, 7), (0, 8), (2, 3), (2, 9), (0, 10), (0, 11), (0, 12), (0, 13), (0, 14), (0, 15), (0, 16)] .nil)); kernel_rfl; exact rfl; kernel_rfl; (repeat (first | with_reducible exact Blind.body | with_reducible apply Blind.seq | with_reducible apply Blind.block))) | ((with_reducible (first | apply TD_e2z | apply TD_e3z | apply TL_e | apply TD_e2 | apply TD_e3)); ((with_reducible apply ES_callV (f := 198)); exact rfl; (intro w hw; exact hchk w (hw.rd rfl hA)); exact rfl); (first | exact rfl | exact ⟨rfl, rfl, rfl⟩); (rintro _ _ ⟨rfl, rfl⟩); (try refine ⟨SUB, ?_⟩)) | ((with_reducible (first | apply TD_e2z | apply TD_e3z | apply TL_e | apply TD_e2 | apply TD_e3)); ((with_reducible apply ES_callV (f := 92)); exact rfl; (intro w hw; exact hfit w); exact rfl); (first | exact rfl | exact ⟨rfl, rfl, rfl⟩); (rintro _ _ ⟨rfl, rfl⟩); (try refine ⟨SUB, ?_⟩)) | ((with_reducible (first | apply TD_e2z | apply TD_e3z | apply TL_e | apply TD_e2 | apply TD_e3)); ((with_reducible apply ES_callV (f := 93)); exact rfl; (intro w hw; exact harg w); exact rfl); (first | exact rfl | exact ⟨rfl, rfl, rfl⟩); (rintro _ _ ⟨rfl, rfl⟩); (try refine ⟨SUB, ?_⟩)) | ((with_reducible (first | apply TD_e2z | apply TD_e3z | apply TL_e | apply TD_e2 | apply TD_e3)); ((with_reducible apply ES_callV (f := 132)); exact rfl; (intro w hw; exact hof w); exact rfl); (first | exact rfl | exact ⟨rfl, rfl, rfl⟩); (rintro _ _ ⟨rfl, rfl⟩); (try refine ⟨SUB, ?_⟩)) | ((with_reducible (first | apply TD_e2z | apply TD_e3z | apply TL_e | apply TD_e2 | apply TD_e3)); ((with_reducible apply ES_callOwn (f := 199)); exact rfl; (intro w hw; exact hcl w (hw.rd rfl hA)); exact rfl); (first | exact rfl | exact ⟨rfl, rfl, rfl⟩); (rintro _ _ ⟨A1, c1, rfl, rfl⟩); (try refine ⟨SUB, ?_⟩)) | ((with_reducible (first | apply TD_e2z | apply TD_e3z | apply TL_e | apply TD_e2 | apply TD_e3)); ((with_reducible apply ES_invokeX (f := 289) (r := .agg #[]) (X := Option Addr × Nat) (S1 := [entOwn intEnc 1 3 A1 c1 s]) (stepV R) (fun x => [entRd intEnc 1 x.1 R.1])); exact rfl; exact ⟨fun w => by kernel_rfl⟩; exact rfl; exact Zp; (intro x; (try dsimp only); exact Za); (intro w hw; exact hstep A1 c1 w ((hw.anyN 0).self 0)); exact rfl); (first | exact rfl | exact ⟨rfl, rfl, rfl⟩); (rintro _ _ ⟨⟨A', c'⟩, rfl, rfl⟩); (try refine ⟨SUB, ?_⟩)) | ((with_reducible (first | apply TD_e2z | apply TD_e3z | apply TL_e | apply TD_e2 | apply TD_e3)); ((with_reducible apply ES_callOwn (f := 199)); exact rfl; (intro w hw; exact clone_any _ _ R.1 w (hw.rdIn Zm) hRl); exact rfl); (first | exact rfl | exact ⟨rfl, rfl, rfl⟩); (rintro _ _ ⟨A2, c2, rfl, rfl⟩); (try refine ⟨SUB, ?_⟩)) | fail)
        (refine At_ret Tryz.results172 rfl (fun w' hw => ?_))
        exact ⟨A2, c2, rfl, hw.ownOut rfl Zm, hw.below0 rfl⟩
      · have hof := fun w => of_any 5 w
        rw [show obV 5 = .iface 247 (.agg #[]) from rfl] at hof
        have hstep := fun A c w h => ticketStep A c s kind a w hck.2.2 hck.2.1 h
        generalize stepP 5 s kind a = R at *
        refine calls_T (S := []) [] Tryz.func172 rfl Tryz.ntmps172 (by simp) (Mem.nil _) ?_
        repeat' (first | ((first | with_reducible (first | apply TL_q | apply TD_q0 | apply TD_q1 | apply TD_q2 | apply TD_q3) | ((with_reducible (first | apply TD_q0y | apply TD_q1y)); exact rfl; exact rfl; (with_reducible exact rfl))); (first | (first | ((with_reducible apply QS_makeInterface); exact rfl) | ((with_reducible apply QS_ifaceSome); exact rfl; exact rfl) | ((with_reducible apply QS_ifaceNil); exact rfl; exact rfl) | ((with_reducible apply QS_fieldZ); exact rfl; (first | ((repeat (first | with_reducible exact List.mem_cons_self | with_reducible apply List.mem_cons_of_mem)); done) | (repeat (first | exact List.Mem.head _ | apply List.Mem.tail)))) | ((with_reducible apply QS_load); exact rfl; exact Lds.zero _) | exact QS.auto) | ((with_reducible apply QS_nilCheckM); exact rfl; (intro w; kernel_rfl))); exact rfl) | refine GG ?_ | (refine GE ?_; (first | rintro _ _ ⟨rfl, rfl⟩ | rintro _ _ ⟨g, rfl, rfl⟩ | rintro _ _ ⟨A', c', rfl, rfl⟩); (try refine ⟨SUB, ?_⟩)) | (refine GO2 ?_ ?_ <;> (refine Zs ?_; intro h; try exact Zx)) | refine GOF ?_ ?_ | ((with_reducible apply T_draw (id := 6) 1000 (OT.seq [(0, 0), (0, 2), (0, 4), (0, 5), (2, 1), (0, 6), (0, 7), (0, 8), (2, 3), (2, 9), (0, 10), (0, 11), (0, 12), (0, 13), (0, 14), (0, 15), (0, 16)] .nil)); kernel_rfl; exact rfl; kernel_rfl; (repeat (first | with_reducible exact Blind.body | with_reducible apply Blind.seq | with_reducible apply Blind.block))) | ((with_reducible (first | apply TD_e2z | apply TD_e3z | apply TL_e | apply TD_e2 | apply TD_e3)); ((with_reducible apply ES_callV (f := 198)); exact rfl; (intro w hw; exact hchk w (hw.rd rfl hA)); exact rfl); (first | exact rfl | exact ⟨rfl, rfl, rfl⟩); (rintro _ _ ⟨rfl, rfl⟩); (try refine ⟨SUB, ?_⟩)) | ((with_reducible (first | apply TD_e2z | apply TD_e3z | apply TL_e | apply TD_e2 | apply TD_e3)); ((with_reducible apply ES_callV (f := 92)); exact rfl; (intro w hw; exact hfit w); exact rfl); (first | exact rfl | exact ⟨rfl, rfl, rfl⟩); (rintro _ _ ⟨rfl, rfl⟩); (try refine ⟨SUB, ?_⟩)) | ((with_reducible (first | apply TD_e2z | apply TD_e3z | apply TL_e | apply TD_e2 | apply TD_e3)); ((with_reducible apply ES_callV (f := 93)); exact rfl; (intro w hw; exact harg w); exact rfl); (first | exact rfl | exact ⟨rfl, rfl, rfl⟩); (rintro _ _ ⟨rfl, rfl⟩); (try refine ⟨SUB, ?_⟩)) | ((with_reducible (first | apply TD_e2z | apply TD_e3z | apply TL_e | apply TD_e2 | apply TD_e3)); ((with_reducible apply ES_callV (f := 132)); exact rfl; (intro w hw; exact hof w); exact rfl); (first | exact rfl | exact ⟨rfl, rfl, rfl⟩); (rintro _ _ ⟨rfl, rfl⟩); (try refine ⟨SUB, ?_⟩)) | ((with_reducible (first | apply TD_e2z | apply TD_e3z | apply TL_e | apply TD_e2 | apply TD_e3)); ((with_reducible apply ES_callOwn (f := 199)); exact rfl; (intro w hw; exact hcl w (hw.rd rfl hA)); exact rfl); (first | exact rfl | exact ⟨rfl, rfl, rfl⟩); (rintro _ _ ⟨A1, c1, rfl, rfl⟩); (try refine ⟨SUB, ?_⟩)) | ((with_reducible (first | apply TD_e2z | apply TD_e3z | apply TL_e | apply TD_e2 | apply TD_e3)); ((with_reducible apply ES_invokeX (f := 299) (r := .agg #[]) (X := Option Addr × Nat) (S1 := [entOwn intEnc 1 3 A1 c1 s]) (stepV R) (fun x => [entRd intEnc 1 x.1 R.1])); exact rfl; exact ⟨fun w => by kernel_rfl⟩; exact rfl; exact Zp; (intro x; (try dsimp only); exact Za); (intro w hw; exact hstep A1 c1 w ((hw.anyN 0).self 0)); exact rfl); (first | exact rfl | exact ⟨rfl, rfl, rfl⟩); (rintro _ _ ⟨⟨A', c'⟩, rfl, rfl⟩); (try refine ⟨SUB, ?_⟩)) | ((with_reducible (first | apply TD_e2z | apply TD_e3z | apply TL_e | apply TD_e2 | apply TD_e3)); ((with_reducible apply ES_callOwn (f := 199)); exact rfl; (intro w hw; exact clone_any _ _ R.1 w (hw.rdIn Zm) hRl); exact rfl); (first | exact rfl | exact ⟨rfl, rfl, rfl⟩); (rintro _ _ ⟨A2, c2, rfl, rfl⟩); (try refine ⟨SUB, ?_⟩)) | fail)
        (refine At_ret Tryz.results172 rfl (fun w' hw => ?_))
        exact ⟨A2, c2, rfl, hw.ownOut rfl Zm, hw.below0 rfl⟩
      · rw [hb] at hck; exact absurd hck.1 (by decide)
    · rw [if_neg hz]
      refine calls_T (S := []) [] Tryz.func172 rfl Tryz.ntmps172 (by simp) (Mem.nil _) ?_
      repeat' (first | ((first | with_reducible (first | apply TL_q | apply TD_q0 | apply TD_q1 | apply TD_q2 | apply TD_q3) | ((with_reducible (first | apply TD_q0y | apply TD_q1y)); exact rfl; exact rfl; (with_reducible exact rfl))); (first | (first | ((with_reducible apply QS_makeInterface); exact rfl) | ((with_reducible apply QS_ifaceSome); exact rfl; exact rfl) | ((with_reducible apply QS_ifaceNil); exact rfl; exact rfl) | ((with_reducible apply QS_fieldZ); exact rfl; (first | ((repeat (first | with_reducible exact List.mem_cons_self | with_reducible apply List.mem_cons_of_mem)); done) | (repeat (first | exact List.Mem.head _ | apply List.Mem.tail)))) | ((with_reducible apply QS_load); exact rfl; exact Lds.zero _) | exact QS.auto) | ((with_reducible apply QS_nilCheckM); exact rfl; (intro w; kernel_rfl))); exact rfl) | refine GO ?_ | (refine GOE ?_; (first | rintro _ _ ⟨rfl, rfl⟩ | rintro _ _ ⟨g, rfl, rfl⟩ | rintro _ _ ⟨A', c', rfl, rfl⟩)) | (refine GO2 ?_ ?_ <;> (refine Zs ?_; intro h; try exact Zx)) | ((with_reducible (first | apply TD_e2z | apply TD_e3z | apply TL_e | apply TD_e2 | apply TD_e3)); ((with_reducible apply ES_callV (f := 198)); exact rfl; (intro w hw; exact hchk w (hw.rd rfl hA)); exact rfl); (first | exact rfl | exact ⟨rfl, rfl, rfl⟩); (rintro _ _ ⟨rfl, rfl⟩); (try refine ⟨SUB, ?_⟩)) | ((with_reducible (first | apply TD_e2z | apply TD_e3z | apply TL_e | apply TD_e2 | apply TD_e3)); ((with_reducible apply ES_callV (f := 92)); exact rfl; (intro w hw; exact hfit w); exact rfl); (first | exact rfl | exact ⟨rfl, rfl, rfl⟩); (rintro _ _ ⟨rfl, rfl⟩); (try refine ⟨SUB, ?_⟩)) | ((with_reducible (first | apply TD_e2z | apply TD_e3z | apply TL_e | apply TD_e2 | apply TD_e3)); ((with_reducible apply ES_callV (f := 93)); exact rfl; (intro w hw; exact harg w); exact rfl); (first | exact rfl | exact ⟨rfl, rfl, rfl⟩); (rintro _ _ ⟨rfl, rfl⟩); (try refine ⟨SUB, ?_⟩)) | fail)
      all_goals first
        | ((refine At_ret Tryz.results172 rfl (fun w' hw => ?_))
           exact ⟨none, 0, rfl, Own.nil _ _, hw.below0 rfl⟩)
        | (exfalso; simp_all; done)
  · have hO : stepO typ s kind a = ([], 0, chkS typ s) := by unfold stepO; rw [if_neg h0]
    rw [hO]
    generalize chkS typ s = q at *
    refine calls_T (S := []) [] Tryz.func172 rfl Tryz.ntmps172 (by simp) (Mem.nil _) ?_
    repeat' (first | ((first | with_reducible (first | apply TL_q | apply TD_q0 | apply TD_q1 | apply TD_q2 | apply TD_q3) | ((with_reducible (first | apply TD_q0y | apply TD_q1y)); exact rfl; exact rfl; (with_reducible exact rfl))); (first | (first | ((with_reducible apply QS_makeInterface); exact rfl) | ((with_reducible apply QS_ifaceSome); exact rfl; exact rfl) | ((with_reducible apply QS_ifaceNil); exact rfl; exact rfl) | ((with_reducible apply QS_fieldZ); exact rfl; (first | ((repeat (first | with_reducible exact List.mem_cons_self | with_reducible apply List.mem_cons_of_mem)); done) | (repeat (first | exact List.Mem.head _ | apply List.Mem.tail)))) | ((with_reducible apply QS_load); exact rfl; exact Lds.zero _) | exact QS.auto) | ((with_reducible apply QS_nilCheckM); exact rfl; (intro w; kernel_rfl))); exact rfl) | refine GO ?_ | (refine GOE ?_; (first | rintro _ _ ⟨rfl, rfl⟩ | rintro _ _ ⟨g, rfl, rfl⟩ | rintro _ _ ⟨A', c', rfl, rfl⟩)) | (refine GO2 ?_ ?_ <;> (refine Zs ?_; intro h; try exact Zx)) | ((with_reducible (first | apply TD_e2z | apply TD_e3z | apply TL_e | apply TD_e2 | apply TD_e3)); ((with_reducible apply ES_callV (f := 198)); exact rfl; (intro w hw; exact hchk w (hw.rd rfl hA)); exact rfl); (first | exact rfl | exact ⟨rfl, rfl, rfl⟩); (rintro _ _ ⟨rfl, rfl⟩); (try refine ⟨SUB, ?_⟩)) | ((with_reducible (first | apply TD_e2z | apply TD_e3z | apply TL_e | apply TD_e2 | apply TD_e3)); ((with_reducible apply ES_callV (f := 92)); exact rfl; (intro w hw; exact hfit w); exact rfl); (first | exact rfl | exact ⟨rfl, rfl, rfl⟩); (rintro _ _ ⟨rfl, rfl⟩); (try refine ⟨SUB, ?_⟩)) | ((with_reducible (first | apply TD_e2z | apply TD_e3z | apply TL_e | apply TD_e2 | apply TD_e3)); ((with_reducible apply ES_callV (f := 93)); exact rfl; (intro w hw; exact harg w); exact rfl); (first | exact rfl | exact ⟨rfl, rfl, rfl⟩); (rintro _ _ ⟨rfl, rfl⟩); (try refine ⟨SUB, ?_⟩)) | fail)
    all_goals first
      | ((refine At_ret Tryz.results172 rfl (fun w' hw => ?_))
         exact ⟨none, 0, rfl, Own.nil _ _, hw.below0 rfl⟩)
      | (exfalso; omega)
end
end Go.Proofs.YtjdckepbihcgfaaGreatDoor

namespace Go.Proofs.YtjdckepbihcgfaaGreatDoor
open Go.RowKit

theorem begL_ok {typ : Int} (h : typB typ = true) : chkS typ (begL typ) = 0 := by
  rcases typ_cases typ with rfl | rfl | rfl | rfl | rfl | ⟨hb, _⟩
  · rfl
  · rfl
  · rfl
  · rfl
  · rfl
  · rw [hb] at h; cases h
end Go.Proofs.YtjdckepbihcgfaaGreatDoor
