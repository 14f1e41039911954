/- Lemmas for the walks (Ifc, Mut4, Mut5, Mut6, Mut7). No condition. -/
import Derived.Test.YtiimjppceobkfaaG08
set_option linter.unusedSimpArgs false
set_option linter.unusedVariables false
set_option linter.unusedSectionVars false
set_option linter.unnecessarySimpa false
namespace Go.Proofs.Ytiimjppceobkfaa
open Go.RowKit

/-- a type that is no interface -/
class PlainT (P : Program) (t : Nat) : Prop where
  make : ∀ (v : Value) (w : World), (Instr.makeInterface t v).run P w = .ok (.iface t v) w
/-- an interface type -/
class IfaceT (P : Program) (t : Nat) : Prop where
  und : ∃ ms, P.underlying t = some (.interface ms)
theorem plainT_of {P : Program} {t : Nat} {fs : Array Field} (h : P.underlying t = some (.struct fs)) : PlainT P t := ⟨fun v w => by simp [Instr.makeInterface, run_underlying h]⟩
/-- a method of a type, called by value -/
class MethodOf (P : Program) (t : Nat) (name : String) (v : Value) (f : outParam Nat) (r : outParam Value) : Prop where
  run : ∀ w, (method (P.types.size + Made.depth) t v name).run P w = .ok (f, r) w
section
variable {P : Program} {C : Ctx} {Q : Exit → Act → World → Prop} {E : Slots} {S S1 R S2 : List Ent}
variable {d ty ty2 ty3 t : Nat} {ps : String} {af : Array Edge} {g0 : Option (Nat × Bool)} {f : Nat} {x y : Operand} {v r : Value}
theorem QS_makeInterface [hs : PlainT P t] (hx : evo E x = some v) : QS P C E S (.makeInterface t x) ty (.iface t v) :=
  QS.of (fun a w ha _ => by
    have := hs.make v w
    simp [execOp, ha.evo hx, this])
theorem run_equal_ifaceNil [h : IfaceT P t] (u : Nat) (v : Value) (w : World) : (Op.equal t (.iface u v) .nilIface).run P w = .ok false w := by
  obtain ⟨ms, h⟩ := h.und
  unfold Op.equal Op.maxDepth Op.equalIn
  simp [run_underlying h]
theorem run_equal_nilNil [h : IfaceT P t] (w : World) : (Op.equal t .nilIface .nilIface).run P w = .ok true w := by
  obtain ⟨ms, h⟩ := h.und
  unfold Op.equal Op.maxDepth Op.equalIn
  simp [run_underlying h]
theorem QS_ifaceSome [IfaceT P t] {u : Nat} (hx : evo E x = some (.iface u v)) (hy : evo E y = some .nilIface) : QS P C E S (.binOp .eql t x y ty3) ty (.bool false) :=
  QS.of (fun a w ha _ => by
    unfold execOp
    simp only [ha.evo hx, ha.evo hy]
    have hg : (eqGuard .eql t x y (.iface u v) .nilIface).run P w = .ok () w := rfl
    have hb : (binOp .eql t (.iface u v) .nilIface).run P w = .ok (.bool false) w := by
      unfold binOp; simp [run_equal_ifaceNil]
    simp only [Sem.run_bind, hg, Result.andThen_ok, hb]; rfl)
theorem QS_ifaceNil [IfaceT P t] {z : Value} (hx : evo E x = some .nilIface) (hz : z = .nilIface) : QS P C E S (.binOp .eql t x (.const z) ty3) ty (.bool true) :=
  QS.of (fun a w ha _ => by
    subst hz
    unfold execOp
    simp only [ha.evo hx]
    have hg : (eqGuard .eql t x (.const .nilIface) .nilIface .nilIface).run P w = .ok () w := by
      unfold eqGuard
      cases x <;> rfl
    have hb : (binOp .eql t .nilIface .nilIface).run P w = .ok (.bool true) w := by
      unfold binOp; simp [run_equal_nilNil]
    simp only [Act.eval, Sem.run_bind, hg, Result.andThen_ok, hb]; rfl)
/-- a method taken as a value: the look at its receiver -/
theorem QS_nilCheckM {u : Nat} {name : String} {cs : Array Value} (hx : evo E x = some (.func (.method name) #[.iface u v] cs)) (hm : ∀ w, (nilAhead (P.types.size + Made.depth) u v name).run P w = .ok (some false) w) : QS P C E S (.nilCheck x) ty (.func (.method name) #[.iface u v] cs) :=
  QS.of (fun a w ha _ => by
    have hp : (program).run P w = .ok P w := rfl
    simp [execOp, ha.evo hx, hp, hm w])
theorem run_invoke [hf : IsFn P f] {u : Nat} {name : String} {xs : List Operand} {vs : List Value} {ats : Array TypeId} (hv : evo E x = some (.iface u v)) (hm : MethodOf P u name v f r) (hx : evs E xs = some vs) {a : Act} {w : World} (ha : Env C.n a E) :
    (execOp a.eval ⟨some d, .call ⟨.invoke x name, xs.toArray, ats⟩, ty, ps, af, g0⟩).run P w = .ok (.enter f (r :: vs).toArray) w := by
  have h1 := ha.evo hv
  have h2 := evs_toArray ha hx
  have hp : (program).run P w = .ok P w := rfl
  have h3 := hf.run (r :: vs).toArray w
  have e1 : (#[Value.iface u v] ++ vs.toArray).extract 1 (#[Value.iface u v] ++ vs.toArray).size = vs.toArray := by simp
  have e2 : (#[Value.iface u v] ++ vs.toArray)[0]? = some (.iface u v) := by simp
  have e3 : #[r] ++ vs.toArray = (r :: vs).toArray := by simp
  simp only [execOp, resolve, h1, h2, Sem.run_bind, Sem.run_pure, Result.andThen_ok, invoke, e2, e1, callMethod, hp, hm.run w, e3, h3]
/-- a call of a method that leaves all alone -/
theorem ES_invokeV [hf : IsFn P f] {u : Nat} {name : String} {xs : List Operand} {vs : List Value} {ats : Array TypeId} {z : Value} (hv : evo E x = some (.iface u v)) (hm : MethodOf P u name v f r) (hx : evs E xs = some vs)
    (hc : ∀ w, Mem C w S → Calls P f (r :: vs).toArray w fun e w' => e = .returned z ∧ Below w.heap.size w w') (hd : Nat.ble (d + 1) C.n = true) :
    ES P C E S ⟨some d, .call ⟨.invoke x name, xs.toArray, ats⟩, ty, ps, af, g0⟩ (fun E' S' => E' = (d, z) :: E ∧ S' = S) := by
  refine (ES_enter (fun u T => u = z ∧ T = S) (fun a w ha => run_invoke hv hm hx ha) (fun w hw => (hc w hw).mono fun e w' ⟨he, hb⟩ => ⟨z, _, he, hw.below hb, rfl, rfl⟩) hd).weak (by rintro _ _ ⟨_, ⟨rfl, rfl⟩, rfl⟩; exact ⟨rfl, rfl⟩)
/-- a call of a method that turns what it is handed -/
theorem ES_invokeX [hf : IsFn P f] {X : Type} {u : Nat} {name : String} {xs : List Operand} {vs : List Value} {ats : Array TypeId} (z : X → Value) (S1' : X → List Ent) {S2 : X → List Ent} (hv : evo E x = some (.iface u v)) (hm : MethodOf P u name v f r) (hx : evs E xs = some vs)
    (hS : Pull S S1 R) (hA : ∀ x, AppL (S1' x) R (S2 x))
    (hc : ∀ w, Mem C w (S1 ++ R) → Calls P f (r :: vs).toArray w fun e w' => ∃ x, e = .returned (z x) ∧ Mem ⟨0, blks S1, w⟩ w' (S1' x)) (hd : Nat.ble (d + 1) C.n = true) :
    ES P C E S ⟨some d, .call ⟨.invoke x name, xs.toArray, ats⟩, ty, ps, af, g0⟩ (fun E' S' => ∃ x, E' = (d, z x) :: E ∧ S' = S2 x) :=
  (ES_enter (fun u T => ∃ x, u = z x ∧ T = S2 x) (fun a w ha => run_invoke hv hm hx ha) (fun w hw => (hc w (hw.pull hS)).mono fun e w' ⟨x, he, hb⟩ => ⟨z x, _, he, (hw.pull hS).frame hb, x, rfl, (hA x).eq⟩) hd).weak
    (by rintro _ _ ⟨_, ⟨x, rfl, rfl⟩, rfl⟩; exact ⟨x, rfl, rfl⟩)
/-- a call that turns what it is handed, to something of some shape -/
theorem ES_callX [hf : IsFn P f] {X : Type} {xs : List Operand} {vs : List Value} {ats : Array TypeId} (z : X → Value) (S1' : X → List Ent) {S2 : X → List Ent} (hx : evs E xs = some vs)
    (hS : Pull S S1 R) (hA : ∀ x, AppL (S1' x) R (S2 x))
    (hc : ∀ w, Mem C w (S1 ++ R) → Calls P f vs.toArray w fun e w' => ∃ x, e = .returned (z x) ∧ Mem ⟨0, blks S1, w⟩ w' (S1' x)) (hd : Nat.ble (d + 1) C.n = true) :
    ES P C E S ⟨some d, .call ⟨.value (.func f), xs.toArray, ats⟩, ty, ps, af, g0⟩ (fun E' S' => ∃ x, E' = (d, z x) :: E ∧ S' = S2 x) :=
  (ES_call (fun u T => ∃ x, u = z x ∧ T = S2 x) hx (fun w hw => (hc w (hw.pull hS)).mono fun e w' ⟨x, he, hb⟩ => ⟨z x, _, he, (hw.pull hS).frame hb, x, rfl, (hA x).eq⟩) hd).weak
    (by rintro _ _ ⟨_, ⟨x, rfl, rfl⟩, rfl⟩; exact ⟨x, rfl, rfl⟩)
end
/-! Structs without a cell -/
/-- a field without a cell, of a struct without one -/
class FieldZ (P : Program) (s f : Nat) : Prop where
  run : ∃ (fs : Array Field) (fd : Field), P.underlying s = some (.struct fs) ∧ fs[f]? = some fd ∧ fd.offset = 0 ∧ fd.byteOffset = 0 ∧ ∀ w, (sizeOf fd.type).run P w = .ok 0 w
class CellsZ (P : Program) (t : Nat) : Prop where
  z : P.cellsOf t = 0
theorem run_byteOf0 {P : Program} {g t o : Nat} [hz : CellsZ P t] {w : World} {cs : Array Value} (hb : Blk w g t cs) : (byteOf ⟨g, o, none⟩).run P w = .ok 0 w := by
  unfold Blk at hb
  have h1 : w.shape? g = some (t, cs.size) := by simp [World.shape?, hb]
  have hp : (program).run P w = .ok P w := rfl
  have hv : (noView ⟨g, o, none⟩).run P w = .ok () w := by simp [noView, viewAt, h1]
  simp [byteOf, hp, hv, h1, hz.z]
section
variable {P : Program} {C : Ctx} {E : Slots} {S : List Ent} {ty g t s f : Nat} {x : Operand} {cs : Array Value}
theorem QS_fieldZ [hs : FieldZ P s f] [hz : CellsZ P s] (hx : evo E x = some (.pointer (some ⟨g, 0, none⟩))) (hm : entBlk g s cs ∈ S) : QS P C E S (.fieldAddr s x f) ty (.pointer (some ⟨g, 0, none⟩)) :=
  QS.of (fun a w ha hw => by
    obtain ⟨fs, fd, h1, h2, h3, h4, h5⟩ := hs.run
    have hb : Blk w g s cs := (hw.holds _ hm).1
    have := run_byteOf0 (P := P) (o := 0) hb
    simp [execOp, ha.evo hx, Instr.fieldAt, run_underlying h1, h2, Instr.sureAddr, fieldPlace, h5 w, partAt, this, h3, h4])
theorem Lds.zero [hs : AggOf P s 0] (ad : Addr) : Lds P C S s ad (.agg #[]) := fun w hw => by
  have : (loadCells ad 0).run P w = .ok #[] w := rfl
  simp [loadVar, hs.agg w, hs.size w, this]
end
end Go.Proofs.Ytiimjppceobkfaa

namespace Go.Proofs.Ytiimjppceobkfaa
open Go.RowKit
set_option linter.unusedSectionVars false

theorem MsOk.turn {n : Nat} {st : Ms} (h : MsOk n st) (t : Int) : MsOk n (turnM st t) := ⟨h.len, h.n4, h.left, h.step, h.number, h.inn, h.most, h.gates⟩
section
variable (a : MP) (B : Option Addr) (c : Nat) (st : Ms) (k : Nat) (n0 : Nat) (w : World) (hk : k < a.n) (hst : MsOk a.n st) (hm : Mem ⟨n0, blks (machM a B c st), w⟩ w (machM a B c st))
include hk hst hm
set_option maxRecDepth 100000 in
set_option maxHeartbeats 4000000 in
theorem swap_any : Calls Try.prog 75 #[.pointer (some ⟨a.m, 0, none⟩), .int .i64 (k : Nat), .pointer (some ⟨a.g, k * 5, none⟩)] w (MPost a B c st (swaM st k) w) := by
  have h1 : st.ps.length = a.n := hst.len
  have h2 := hst.left k hk
  have h3 := hst.step k hk
  have h4 := hst.n4
  have h5 := hst.number k hk
  have e0 : st.at k = st.ps[k] := by simp [Ms.at, h1, hk]
  rw [e0] at h2 h3 h5
  obtain ⟨ps, turn, inn, most, gates⟩ := st
  have hent := fun {C : Ctx} {R : List Ent} (w' : World) (hw : Mem C w' (machM a B c ⟨ps, turn, inn, most, gates⟩ ++ R)) => enter_any a B c ⟨ps, turn, inn, most, gates⟩ k 0 w' hk hst (hw.self 0)
  have hexi := fun {C : Ctx} {R : List Ent} (w' : World) (hw : Mem C w' (machM a B c ⟨ps, turn, inn, most, gates⟩ ++ R)) => exit_any a B c ⟨ps, turn, inn, most, gates⟩ k 0 w' hk hst (hw.self 0)
  dsimp only at h1 h2 h3 h5 e0
  unfold MPost
  generalize blks (machM a B c ⟨ps, turn, inn, most, gates⟩) = F at hm ⊢
  have hend := fun {C : Ctx} {R : List Ent} (w' : World) (hw : Mem C w' (machM a B c ⟨ps, 0, inn, most, gates⟩ ++ R)) => end_any a B c ⟨ps, 0, inn, most, gates⟩ k 0 w' hk h1 (by rw [show (⟨ps, 0, inn, most, gates⟩ : Ms).at k = ps[k] from e0]; exact h2) (hw.self 0)
  rw [show (⟨ps, 0, inn, most, gates⟩ : Ms).at k = ps[k] from e0] at hend
  refine calls_T F Try.func75 rfl Try.ntmps75 (by simp) (hm.anyN _) ?_
  rw [machM]
  repeat' (first | ((first | with_reducible (first | apply TL_q | apply TD_q0 | apply TD_q1 | apply TD_q2 | apply TD_q3) | ((with_reducible (first | apply TD_q0y | apply TD_q1y)); exact rfl; exact rfl; (with_reducible exact rfl))); (first | ((with_reducible apply QS_load); exact rfl; exact Lds.ownSet (by first | ((repeat (first | with_reducible exact List.mem_cons_self | with_reducible apply List.mem_cons_of_mem)); done) | (repeat (first | exact List.Mem.head _ | apply List.Mem.tail))) (fun _ => rfl) (by omega) (by rw [Pr.enc_mk]; rfl)) | ((with_reducible apply QS_load); exact rfl; exact Lds.ownSet0 (by first | ((repeat (first | with_reducible exact List.mem_cons_self | with_reducible apply List.mem_cons_of_mem)); done) | (repeat (first | exact List.Mem.head _ | apply List.Mem.tail))) (fun _ => rfl) (by omega) (by rw [Pr.enc_mk]; rfl)) | exact QS.auto); exact rfl) | ((with_reducible (first | apply TD_e2z | apply TD_e3z | apply TL_e | apply TD_e2 | apply TD_e3)); (first | ((with_reducible apply ES_storeOwn (enc := Pr.enc)); exact rfl; exact rfl; (first | ((repeat (first | with_reducible exact Upd.here _ _ _ | with_reducible apply Upd.there)); done) | (repeat (first | exact Upd.here _ _ _ | apply Upd.there))); exact fun _ => rfl; ((first | exact List.getElem?_set_self (by first | assumption | omega) | exact List.getElem?_eq_getElem (by first | assumption | omega | (simp only [List.length_set]; omega)))); decide; exact Pr.enc_mk _ _ _ _ _; exact rfl) | ((with_reducible apply ES_storeOwn0 (enc := Pr.enc)); exact rfl; exact rfl; (first | ((repeat (first | with_reducible exact Upd.here _ _ _ | with_reducible apply Upd.there)); done) | (repeat (first | exact Upd.here _ _ _ | apply Upd.there))); exact fun _ => rfl; ((first | exact List.getElem?_set_self (by first | assumption | omega) | exact List.getElem?_eq_getElem (by first | assumption | omega | (simp only [List.length_set]; omega)))); decide; exact Pr.enc_mk _ _ _ _ _; exact rfl) | exact ES.auto); (first | exact rfl | exact ⟨rfl, rfl, rfl⟩); (first | (rintro _ _ ⟨rfl, rfl⟩) | (rintro _ _ ⟨g, rfl, rfl⟩) | (rintro _ _ ⟨A', c', rfl, rfl⟩)); (try refine ⟨SUB, ?_⟩)) | (refine GG ?_) | (refine GE ?_; (first | (rintro _ _ ⟨rfl, rfl⟩) | (rintro _ _ ⟨g, rfl, rfl⟩) | (rintro _ _ ⟨A', c', rfl, rfl⟩)); (try refine ⟨SUB, ?_⟩)) | ((refine GO2 ?_ ?_) <;> intro h <;> (try (repeat (first | with_reducible (replace h := of_decide_eq_true h) | with_reducible (replace h := of_decide_eq_false h) | with_reducible (replace h := bnt h) | with_reducible (replace h := bnf h) | with_reducible (replace h := Int.not_lt.mp h) | with_reducible (replace h := Int.not_le.mp h) | with_reducible (replace h := band_dec h) | with_reducible (replace h := band_decF h) | with_reducible (replace h := bor_dec h) | with_reducible (replace h := bor_decF h)))) <;> (try (exfalso; first | contradiction | omega))) | (refine GOF ?_ ?_) | ((with_reducible (first | apply TD_e2z | apply TD_e3z | apply TL_e | apply TD_e2 | apply TD_e3)); ((with_reducible apply ES_callX (f := 134) (X := Option Addr × Nat) (S1 := machM a B c ⟨ps, turn, inn, most, gates⟩) (fun _ => .tuple #[]) (fun y => machM a y.1 y.2 ⟨ps, turn, inn + 1, max most (inn + 1), gates ++ [⟨k, true⟩]⟩)); exact rfl; (rw [machM]; (repeat (first | exact Pull.nil _ | (apply Pull.cons; (repeat (first | with_reducible exact Pick.here _ _ | with_reducible apply Pick.there)))))); (intro y; rw [machM]; repeat (first | exact AppL.nil _ | apply AppL.cons)); (intro w' hw; exact hent _ hw); exact rfl); (first | exact rfl | exact ⟨rfl, rfl, rfl⟩); (rintro _ _ ⟨x, rfl, rfl⟩); (try refine ⟨SUB, ?_⟩)) | ((with_reducible (first | apply TD_e2z | apply TD_e3z | apply TL_e | apply TD_e2 | apply TD_e3)); ((with_reducible apply ES_callX (f := 135) (X := Option Addr × Nat) (S1 := machM a B c ⟨ps, turn, inn, most, gates⟩) (fun _ => .tuple #[]) (fun y => machM a y.1 y.2 ⟨ps, turn, inn - 1, most, gates ++ [⟨k, false⟩]⟩)); exact rfl; (rw [machM]; (repeat (first | exact Pull.nil _ | (apply Pull.cons; (repeat (first | with_reducible exact Pick.here _ _ | with_reducible apply Pick.there)))))); (intro y; rw [machM]; repeat (first | exact AppL.nil _ | apply AppL.cons)); (intro w' hw; exact hexi _ hw); exact rfl); (first | exact rfl | exact ⟨rfl, rfl, rfl⟩); (rintro _ _ ⟨x, rfl, rfl⟩); (try refine ⟨SUB, ?_⟩)) | ((with_reducible (first | apply TD_e2z | apply TD_e3z | apply TL_e | apply TD_e2 | apply TD_e3)); ((with_reducible apply ES_callX (f := 136) (X := Option Addr × Nat) (S1 := machM a B c ⟨ps, 0, inn, most, gates⟩) (fun _ => .tuple #[]) (fun y => machM a y.1 y.2 ⟨ps.set k ⟨0, ps[k].left - 1, ps[k].flag, ps[k].number, ps[k].k⟩, 0, inn, most, gates⟩)); exact rfl; (rw [machM]; (repeat (first | exact Pull.nil _ | (apply Pull.cons; (repeat (first | with_reducible exact Pick.here _ _ | with_reducible apply Pick.there)))))); (intro y; rw [machM]; repeat (first | exact AppL.nil _ | apply AppL.cons)); (intro w' hw; exact hend _ hw); exact rfl); (first | exact rfl | exact ⟨rfl, rfl, rfl⟩); (rintro _ _ ⟨x, rfl, rfl⟩); (try refine ⟨SUB, ?_⟩)) | fail)
  · (refine At_ret Try.results75 rfl (fun w' hw => ?_))
    (unfold swaM; rw [e0]; dsimp only; (repeat' split) <;> (first | (exfalso; omega) | exact ⟨(B, c), rfl, hw.anyN 0⟩ | (exfalso; simp_all; done)))
  · (refine At_retN Try.results75 rfl (fun w' hw => ?_))
    (unfold swaM; rw [e0]; dsimp only; (repeat' split) <;> (first | (exfalso; omega) | exact ⟨(B, c), rfl, hw.anyN 0⟩ | (exfalso; simp_all; done)))
  · (refine At_retN Try.results75 rfl (fun w' hw => ?_))
    (unfold swaM; rw [e0]; dsimp only; (repeat' split) <;> (first | (exfalso; omega) | exact ⟨x, rfl, hw.anyN 0⟩ | (exfalso; simp_all; done)))
  · (refine At_retN Try.results75 rfl (fun w' hw => ?_))
    (unfold swaM; rw [e0]; dsimp only; (repeat' split) <;> (first | (exfalso; omega) | exact ⟨x, rfl, hw.anyN 0⟩ | (exfalso; simp_all; done)))
  · (refine At_ret Try.results75 rfl (fun w' hw => ?_))
    (unfold swaM; rw [e0]; dsimp only; (repeat' split) <;> (first | (exfalso; omega) | exact ⟨x, rfl, hw.anyN 0⟩ | (exfalso; simp_all; done)))
end
end Go.Proofs.Ytiimjppceobkfaa

namespace Go.Proofs.Ytiimjppceobkfaa
open Go.RowKit
set_option linter.unusedSectionVars false

section
variable (a : MP) (B : Option Addr) (c : Nat) (st : Ms) (k : Nat) (n0 : Nat) (w : World) (hk : k < a.n) (hst : MsOk a.n st) (hm : Mem ⟨n0, blks (machM a B c st), w⟩ w (machM a B c st))
include hk hst hm
set_option maxRecDepth 100000 in
set_option maxHeartbeats 4000000 in
theorem pet_any (hn : a.n = 2) : Calls Try.prog 72 #[.pointer (some ⟨a.m, 0, none⟩), .int .i64 (k : Nat), .pointer (some ⟨a.g, k * 5, none⟩)] w (MPost a B c st (petM st k) w) := by
  have h1 : st.ps.length = a.n := hst.len
  have h2 := hst.left k hk
  have h3 := hst.step k hk
  have h4 := hst.n4
  have h5 := hst.number k hk
  have e0 : st.at k = st.ps[k] := by simp [Ms.at, h1, hk]
  rw [e0] at h2 h3 h5
  obtain ⟨ps, turn, inn, most, gates⟩ := st
  have hent := fun {C : Ctx} {R : List Ent} (w' : World) (hw : Mem C w' (machM a B c ⟨ps, turn, inn, most, gates⟩ ++ R)) => enter_any a B c ⟨ps, turn, inn, most, gates⟩ k 0 w' hk hst (hw.self 0)
  have hexi := fun {C : Ctx} {R : List Ent} (w' : World) (hw : Mem C w' (machM a B c ⟨ps, turn, inn, most, gates⟩ ++ R)) => exit_any a B c ⟨ps, turn, inn, most, gates⟩ k 0 w' hk hst (hw.self 0)
  dsimp only at h1 h2 h3 h5 e0
  unfold MPost
  generalize blks (machM a B c ⟨ps, turn, inn, most, gates⟩) = F at hm ⊢
  have hend := fun {C : Ctx} {R : List Ent} (w' : World) (hw : Mem C w' (machM a B c ⟨ps.set k ⟨ps[k].step, ps[k].left, false, ps[k].number, ps[k].k⟩, turn, inn, most, gates⟩ ++ R)) => end_set (n0 := 0) hk h1 (p := ⟨ps[k].step, ps[k].left, false, ps[k].number, ps[k].k⟩) h2 (hw.self 0)
  have hk1 : (1 - (k : Int)).toNat < ps.length := by omega
  have e3 : (⟨ps, turn, inn, most, gates⟩ : Ms).at (1 - k) = ps[(1 - (k : Int)).toNat] := by
    show ps.getD (1 - k) default = _
    rw [List.getD_eq_getElem?_getD, show ps[1 - k]? = some ps[(1 - (k : Int)).toNat] by rw [show 1 - k = (1 - (k : Int)).toNat by omega, List.getElem?_eq_getElem hk1]]
    rfl
  refine calls_T F Try.func72 rfl Try.ntmps72 (by simp) (hm.anyN _) ?_
  rw [machM]
  repeat' (first | ((first | with_reducible (first | apply TL_q | apply TD_q0 | apply TD_q1 | apply TD_q2 | apply TD_q3) | ((with_reducible (first | apply TD_q0y | apply TD_q1y)); exact rfl; exact rfl; (with_reducible exact rfl))); (first | ((with_reducible apply QS_load); exact rfl; exact Lds.ownSet (by first | ((repeat (first | with_reducible exact List.mem_cons_self | with_reducible apply List.mem_cons_of_mem)); done) | (repeat (first | exact List.Mem.head _ | apply List.Mem.tail))) (fun _ => rfl) (by omega) (by rw [Pr.enc_mk]; rfl)) | ((with_reducible apply QS_load); exact rfl; exact Lds.ownSet0 (by first | ((repeat (first | with_reducible exact List.mem_cons_self | with_reducible apply List.mem_cons_of_mem)); done) | (repeat (first | exact List.Mem.head _ | apply List.Mem.tail))) (fun _ => rfl) (by omega) (by rw [Pr.enc_mk]; rfl)) | exact QS.auto); exact rfl) | ((with_reducible (first | apply TD_e2z | apply TD_e3z | apply TL_e | apply TD_e2 | apply TD_e3)); (first | ((with_reducible apply ES_storeOwn (enc := Pr.enc)); exact rfl; exact rfl; (first | ((repeat (first | with_reducible exact Upd.here _ _ _ | with_reducible apply Upd.there)); done) | (repeat (first | exact Upd.here _ _ _ | apply Upd.there))); exact fun _ => rfl; ((first | exact List.getElem?_set_self (by first | assumption | omega) | exact List.getElem?_eq_getElem (by first | assumption | omega | (simp only [List.length_set]; omega)))); decide; exact Pr.enc_mk _ _ _ _ _; exact rfl) | ((with_reducible apply ES_storeOwn0 (enc := Pr.enc)); exact rfl; exact rfl; (first | ((repeat (first | with_reducible exact Upd.here _ _ _ | with_reducible apply Upd.there)); done) | (repeat (first | exact Upd.here _ _ _ | apply Upd.there))); exact fun _ => rfl; ((first | exact List.getElem?_set_self (by first | assumption | omega) | exact List.getElem?_eq_getElem (by first | assumption | omega | (simp only [List.length_set]; omega)))); decide; exact Pr.enc_mk _ _ _ _ _; exact rfl) | exact ES.auto); (first | exact rfl | exact ⟨rfl, rfl, rfl⟩); (first | (rintro _ _ ⟨rfl, rfl⟩) | (rintro _ _ ⟨g, rfl, rfl⟩) | (rintro _ _ ⟨A', c', rfl, rfl⟩)); (try refine ⟨SUB, ?_⟩)) | (refine GG ?_) | (refine GE ?_; (first | (rintro _ _ ⟨rfl, rfl⟩) | (rintro _ _ ⟨g, rfl, rfl⟩) | (rintro _ _ ⟨A', c', rfl, rfl⟩)); (try refine ⟨SUB, ?_⟩)) | ((refine GO2 ?_ ?_) <;> intro h <;> (try (repeat (first | with_reducible (replace h := of_decide_eq_true h) | with_reducible (replace h := of_decide_eq_false h) | with_reducible (replace h := bnt h) | with_reducible (replace h := bnf h) | with_reducible (replace h := Int.not_lt.mp h) | with_reducible (replace h := Int.not_le.mp h) | with_reducible (replace h := band_dec h) | with_reducible (replace h := band_decF h) | with_reducible (replace h := bor_dec h) | with_reducible (replace h := bor_decF h)))) <;> (try (exfalso; first | contradiction | omega))) | (refine GOF ?_ ?_) | ((with_reducible (first | apply TD_e2z | apply TD_e3z | apply TL_e | apply TD_e2 | apply TD_e3)); ((with_reducible apply ES_callX (f := 134) (X := Option Addr × Nat) (S1 := machM a B c ⟨ps, turn, inn, most, gates⟩) (fun _ => .tuple #[]) (fun y => machM a y.1 y.2 ⟨ps, turn, inn + 1, max most (inn + 1), gates ++ [⟨k, true⟩]⟩)); exact rfl; (rw [machM]; (repeat (first | exact Pull.nil _ | (apply Pull.cons; (repeat (first | with_reducible exact Pick.here _ _ | with_reducible apply Pick.there)))))); (intro y; rw [machM]; repeat (first | exact AppL.nil _ | apply AppL.cons)); (intro w' hw; exact hent _ hw); exact rfl); (first | exact rfl | exact ⟨rfl, rfl, rfl⟩); (rintro _ _ ⟨x, rfl, rfl⟩); (try refine ⟨SUB, ?_⟩)) | ((with_reducible (first | apply TD_e2z | apply TD_e3z | apply TL_e | apply TD_e2 | apply TD_e3)); ((with_reducible apply ES_callX (f := 135) (X := Option Addr × Nat) (S1 := machM a B c ⟨ps, turn, inn, most, gates⟩) (fun _ => .tuple #[]) (fun y => machM a y.1 y.2 ⟨ps, turn, inn - 1, most, gates ++ [⟨k, false⟩]⟩)); exact rfl; (rw [machM]; (repeat (first | exact Pull.nil _ | (apply Pull.cons; (repeat (first | with_reducible exact Pick.here _ _ | with_reducible apply Pick.there)))))); (intro y; rw [machM]; repeat (first | exact AppL.nil _ | apply AppL.cons)); (intro w' hw; exact hexi _ hw); exact rfl); (first | exact rfl | exact ⟨rfl, rfl, rfl⟩); (rintro _ _ ⟨x, rfl, rfl⟩); (try refine ⟨SUB, ?_⟩)) | ((with_reducible (first | apply TD_e2z | apply TD_e3z | apply TL_e | apply TD_e2 | apply TD_e3)); ((with_reducible apply ES_callX (f := 136) (X := Option Addr × Nat) (S1 := machM a B c ⟨ps.set k ⟨ps[k].step, ps[k].left, false, ps[k].number, ps[k].k⟩, turn, inn, most, gates⟩) (fun _ => .tuple #[]) (fun y => machM a y.1 y.2 ⟨ps.set k ⟨0, ps[k].left - 1, false, ps[k].number, ps[k].k⟩, turn, inn, most, gates⟩)); exact rfl; (rw [machM]; (repeat (first | exact Pull.nil _ | (apply Pull.cons; (repeat (first | with_reducible exact Pick.here _ _ | with_reducible apply Pick.there)))))); (intro y; rw [machM]; repeat (first | exact AppL.nil _ | apply AppL.cons)); (intro w' hw; exact hend _ hw); exact rfl); (first | exact rfl | exact ⟨rfl, rfl, rfl⟩); (rintro _ _ ⟨x, rfl, rfl⟩); (try refine ⟨SUB, ?_⟩)) | fail)
  (all_goals (first | ((refine At_retN Try.results72 rfl (fun w' hw => ?_)); (unfold petM; (try rw [List.set_set] at hw); rw [e0]; rw [e3]; dsimp only; (repeat' split) <;> (first | (exfalso; omega) | exact ⟨(B, c), rfl, hw.anyN 0⟩ | exact ⟨x, rfl, hw.anyN 0⟩ | (exfalso; simp_all; done)))) | ((refine At_ret Try.results72 rfl (fun w' hw => ?_)); (unfold petM; (try rw [List.set_set] at hw); rw [e0]; rw [e3]; dsimp only; (repeat' split) <;> (first | (exfalso; omega) | exact ⟨(B, c), rfl, hw.anyN 0⟩ | exact ⟨x, rfl, hw.anyN 0⟩ | (exfalso; simp_all; done))))))
end
end Go.Proofs.Ytiimjppceobkfaa

namespace Go.Proofs.Ytiimjppceobkfaa
open Go.RowKit
set_option linter.unusedSectionVars false

section
variable (a : MP) (B : Option Addr) (c : Nat) (st : Ms) (k : Nat) (n0 : Nat) (w : World) (hk : k < a.n) (hst : MsOk a.n st) (hm : Mem ⟨n0, blks (machM a B c st), w⟩ w (machM a B c st))
include hk hst hm
set_option maxRecDepth 100000 in
set_option maxHeartbeats 4000000 in
theorem naive_any' : Calls Try.prog 74 #[.pointer (some ⟨a.m, 0, none⟩), .int .i64 (k : Nat), .pointer (some ⟨a.g, k * 5, none⟩)] w (MPost a B c st (naiM st k) w) := by
  have h1 : st.ps.length = a.n := hst.len
  have h2 := hst.left k hk
  have h3 := hst.step k hk
  have h4 := hst.n4
  have h5 := hst.number k hk
  have e0 : st.at k = st.ps[k] := by simp [Ms.at, h1, hk]
  rw [e0] at h2 h3 h5
  obtain ⟨ps, turn, inn, most, gates⟩ := st
  have hent := fun {C : Ctx} {R : List Ent} (w' : World) (hw : Mem C w' (machM a B c ⟨ps, turn, inn, most, gates⟩ ++ R)) => enter_any a B c ⟨ps, turn, inn, most, gates⟩ k 0 w' hk hst (hw.self 0)
  have hexi := fun {C : Ctx} {R : List Ent} (w' : World) (hw : Mem C w' (machM a B c ⟨ps, turn, inn, most, gates⟩ ++ R)) => exit_any a B c ⟨ps, turn, inn, most, gates⟩ k 0 w' hk hst (hw.self 0)
  dsimp only at h1 h2 h3 h5 e0
  unfold MPost
  generalize blks (machM a B c ⟨ps, turn, inn, most, gates⟩) = F at hm ⊢
  have hend := fun {C : Ctx} {R : List Ent} (w' : World) (hw : Mem C w' (machM a B c ⟨ps.set k ⟨ps[k].step, ps[k].left, false, ps[k].number, ps[k].k⟩, turn, inn, most, gates⟩ ++ R)) => end_set (n0 := 0) hk h1 (p := ⟨ps[k].step, ps[k].left, false, ps[k].number, ps[k].k⟩) h2 (hw.self 0)
  refine calls_T F Try.func74 rfl Try.ntmps74 (by simp) (hm.anyN _) ?_
  rw [machM]
  repeat' (first | ((first | with_reducible (first | apply TL_q | apply TD_q0 | apply TD_q1 | apply TD_q2 | apply TD_q3) | ((with_reducible (first | apply TD_q0y | apply TD_q1y)); exact rfl; exact rfl; (with_reducible exact rfl))); (first | ((with_reducible apply QS_load); exact rfl; exact Lds.ownSet (by first | ((repeat (first | with_reducible exact List.mem_cons_self | with_reducible apply List.mem_cons_of_mem)); done) | (repeat (first | exact List.Mem.head _ | apply List.Mem.tail))) (fun _ => rfl) (by omega) (by rw [Pr.enc_mk]; rfl)) | ((with_reducible apply QS_load); exact rfl; exact Lds.ownSet0 (by first | ((repeat (first | with_reducible exact List.mem_cons_self | with_reducible apply List.mem_cons_of_mem)); done) | (repeat (first | exact List.Mem.head _ | apply List.Mem.tail))) (fun _ => rfl) (by omega) (by rw [Pr.enc_mk]; rfl)) | exact QS.auto); exact rfl) | ((with_reducible (first | apply TD_e2z | apply TD_e3z | apply TL_e | apply TD_e2 | apply TD_e3)); (first | ((with_reducible apply ES_storeOwn (enc := Pr.enc)); exact rfl; exact rfl; (first | ((repeat (first | with_reducible exact Upd.here _ _ _ | with_reducible apply Upd.there)); done) | (repeat (first | exact Upd.here _ _ _ | apply Upd.there))); exact fun _ => rfl; ((first | exact List.getElem?_set_self (by first | assumption | omega) | exact List.getElem?_eq_getElem (by first | assumption | omega | (simp only [List.length_set]; omega)))); decide; exact Pr.enc_mk _ _ _ _ _; exact rfl) | ((with_reducible apply ES_storeOwn0 (enc := Pr.enc)); exact rfl; exact rfl; (first | ((repeat (first | with_reducible exact Upd.here _ _ _ | with_reducible apply Upd.there)); done) | (repeat (first | exact Upd.here _ _ _ | apply Upd.there))); exact fun _ => rfl; ((first | exact List.getElem?_set_self (by first | assumption | omega) | exact List.getElem?_eq_getElem (by first | assumption | omega | (simp only [List.length_set]; omega)))); decide; exact Pr.enc_mk _ _ _ _ _; exact rfl) | exact ES.auto); (first | exact rfl | exact ⟨rfl, rfl, rfl⟩); (first | (rintro _ _ ⟨rfl, rfl⟩) | (rintro _ _ ⟨g, rfl, rfl⟩) | (rintro _ _ ⟨A', c', rfl, rfl⟩)); (try refine ⟨SUB, ?_⟩)) | (refine GG ?_) | (refine GE ?_; (first | (rintro _ _ ⟨rfl, rfl⟩) | (rintro _ _ ⟨g, rfl, rfl⟩) | (rintro _ _ ⟨A', c', rfl, rfl⟩)); (try refine ⟨SUB, ?_⟩)) | ((refine GO2 ?_ ?_) <;> intro h <;> (try (repeat (first | with_reducible (replace h := of_decide_eq_true h) | with_reducible (replace h := of_decide_eq_false h) | with_reducible (replace h := bnt h) | with_reducible (replace h := bnf h) | with_reducible (replace h := Int.not_lt.mp h) | with_reducible (replace h := Int.not_le.mp h) | with_reducible (replace h := band_dec h) | with_reducible (replace h := band_decF h) | with_reducible (replace h := bor_dec h) | with_reducible (replace h := bor_decF h)))) <;> (try (exfalso; first | contradiction | omega))) | (refine GOF ?_ ?_) | ((with_reducible (first | apply TD_e2z | apply TD_e3z | apply TL_e | apply TD_e2 | apply TD_e3)); ((with_reducible apply ES_callX (f := 134) (X := Option Addr × Nat) (S1 := machM a B c ⟨ps, turn, inn, most, gates⟩) (fun _ => .tuple #[]) (fun y => machM a y.1 y.2 ⟨ps, turn, inn + 1, max most (inn + 1), gates ++ [⟨k, true⟩]⟩)); exact rfl; (rw [machM]; (repeat (first | exact Pull.nil _ | (apply Pull.cons; (repeat (first | with_reducible exact Pick.here _ _ | with_reducible apply Pick.there)))))); (intro y; rw [machM]; repeat (first | exact AppL.nil _ | apply AppL.cons)); (intro w' hw; exact hent _ hw); exact rfl); (first | exact rfl | exact ⟨rfl, rfl, rfl⟩); (rintro _ _ ⟨x, rfl, rfl⟩); (try refine ⟨SUB, ?_⟩)) | ((with_reducible (first | apply TD_e2z | apply TD_e3z | apply TL_e | apply TD_e2 | apply TD_e3)); ((with_reducible apply ES_callX (f := 135) (X := Option Addr × Nat) (S1 := machM a B c ⟨ps, turn, inn, most, gates⟩) (fun _ => .tuple #[]) (fun y => machM a y.1 y.2 ⟨ps, turn, inn - 1, most, gates ++ [⟨k, false⟩]⟩)); exact rfl; (rw [machM]; (repeat (first | exact Pull.nil _ | (apply Pull.cons; (repeat (first | with_reducible exact Pick.here _ _ | with_reducible apply Pick.there)))))); (intro y; rw [machM]; repeat (first | exact AppL.nil _ | apply AppL.cons)); (intro w' hw; exact hexi _ hw); exact rfl); (first | exact rfl | exact ⟨rfl, rfl, rfl⟩); (rintro _ _ ⟨x, rfl, rfl⟩); (try refine ⟨SUB, ?_⟩)) | ((with_reducible (first | apply TD_e2z | apply TD_e3z | apply TL_e | apply TD_e2 | apply TD_e3)); ((with_reducible apply ES_callX (f := 136) (X := Option Addr × Nat) (S1 := machM a B c ⟨ps.set k ⟨ps[k].step, ps[k].left, false, ps[k].number, ps[k].k⟩, turn, inn, most, gates⟩) (fun _ => .tuple #[]) (fun y => machM a y.1 y.2 ⟨ps.set k ⟨0, ps[k].left - 1, false, ps[k].number, ps[k].k⟩, turn, inn, most, gates⟩)); exact rfl; (rw [machM]; (repeat (first | exact Pull.nil _ | (apply Pull.cons; (repeat (first | with_reducible exact Pick.here _ _ | with_reducible apply Pick.there)))))); (intro y; rw [machM]; repeat (first | exact AppL.nil _ | apply AppL.cons)); (intro w' hw; exact hend _ hw); exact rfl); (first | exact rfl | exact ⟨rfl, rfl, rfl⟩); (rintro _ _ ⟨x, rfl, rfl⟩); (try refine ⟨SUB, ?_⟩)) | fail)
  · refine T_loop (X := Nat) (fun j => [(25, .int .i64 (j : Nat)), (24, .int .i64 a.n), (23, .slice (some ⟨a.g, 0, none⟩) a.n a.n), (0, .pointer (some ⟨a.m, 0, none⟩)), (1, .int .i64 (k : Nat)), (2, .pointer (some ⟨a.g, k * 5, none⟩))])
      (fun _ => [entBlk a.m 134 #[.slice (some ⟨a.g, 0, none⟩) a.n a.n, .int .i64 turn, .int .i64 inn, .int .i64 most, .slice B gates.length c], entOwn Pr.enc 5 136 (some ⟨a.g, 0, none⟩) a.n ps, entOwn Gt.enc 2 32 B c gates])
      (fun j => j ≤ a.n ∧ aloneB k (ps.map (·.flag)) j = false) (fun j => a.n - j) 0 ⟨by omega, rfl⟩ (by (repeat (first | exact SubE.nil _ | refine SubE.cons rfl ?_))) (fun w hw => hw) ?_
    rintro j ⟨hj, hno⟩
    by_cases hjl : j < a.n
    · have hs := alone_succ k (ps.map (·.flag)) j
      have hfl : (ps.map (·.flag)).getD j false = ps[j].flag := by simp [h1, hjl]
      rw [hno, hfl, Bool.false_or] at hs
      have hat := fun h1 h2 => alone_at (w := k) (fs := ps.map (·.flag)) (n := ps.length) (by omega : j < ps.length) h1 h2
      rw [hfl] at hat
      repeat' (first | ((first | with_reducible (first | apply TL_q | apply TD_q0 | apply TD_q1 | apply TD_q2 | apply TD_q3) | ((with_reducible (first | apply TD_q0y | apply TD_q1y)); exact rfl; exact rfl; (with_reducible exact rfl))); (first | ((with_reducible apply QS_load); exact rfl; exact Lds.ownSet (by first | ((repeat (first | with_reducible exact List.mem_cons_self | with_reducible apply List.mem_cons_of_mem)); done) | (repeat (first | exact List.Mem.head _ | apply List.Mem.tail))) (fun _ => rfl) (by omega) (by rw [Pr.enc_mk]; rfl)) | ((with_reducible apply QS_load); exact rfl; exact Lds.ownSet0 (by first | ((repeat (first | with_reducible exact List.mem_cons_self | with_reducible apply List.mem_cons_of_mem)); done) | (repeat (first | exact List.Mem.head _ | apply List.Mem.tail))) (fun _ => rfl) (by omega) (by rw [Pr.enc_mk]; rfl)) | exact QS.auto); exact rfl) | ((with_reducible (first | apply TD_e2z | apply TD_e3z | apply TL_e | apply TD_e2 | apply TD_e3)); (first | ((with_reducible apply ES_storeOwn (enc := Pr.enc)); exact rfl; exact rfl; (first | ((repeat (first | with_reducible exact Upd.here _ _ _ | with_reducible apply Upd.there)); done) | (repeat (first | exact Upd.here _ _ _ | apply Upd.there))); exact fun _ => rfl; ((first | exact List.getElem?_set_self (by first | assumption | omega) | exact List.getElem?_eq_getElem (by first | assumption | omega | (simp only [List.length_set]; omega)))); decide; exact Pr.enc_mk _ _ _ _ _; exact rfl) | ((with_reducible apply ES_storeOwn0 (enc := Pr.enc)); exact rfl; exact rfl; (first | ((repeat (first | with_reducible exact Upd.here _ _ _ | with_reducible apply Upd.there)); done) | (repeat (first | exact Upd.here _ _ _ | apply Upd.there))); exact fun _ => rfl; ((first | exact List.getElem?_set_self (by first | assumption | omega) | exact List.getElem?_eq_getElem (by first | assumption | omega | (simp only [List.length_set]; omega)))); decide; exact Pr.enc_mk _ _ _ _ _; exact rfl) | exact ES.auto); (first | exact rfl | exact ⟨rfl, rfl, rfl⟩); (first | (rintro _ _ ⟨rfl, rfl⟩) | (rintro _ _ ⟨g, rfl, rfl⟩) | (rintro _ _ ⟨A', c', rfl, rfl⟩)); (try refine ⟨SUB, ?_⟩)) | (refine GG ?_) | (refine GE ?_; (first | (rintro _ _ ⟨rfl, rfl⟩) | (rintro _ _ ⟨g, rfl, rfl⟩) | (rintro _ _ ⟨A', c', rfl, rfl⟩)); (try refine ⟨SUB, ?_⟩)) | ((refine GO2 ?_ ?_) <;> intro h <;> (try (repeat (first | with_reducible (replace h := of_decide_eq_true h) | with_reducible (replace h := of_decide_eq_false h) | with_reducible (replace h := bnt h) | with_reducible (replace h := bnf h) | with_reducible (replace h := Int.not_lt.mp h) | with_reducible (replace h := Int.not_le.mp h) | with_reducible (replace h := band_dec h) | with_reducible (replace h := band_decF h) | with_reducible (replace h := bor_dec h) | with_reducible (replace h := bor_decF h)))) <;> (try (exfalso; first | contradiction | omega))) | (refine GOF ?_ ?_) | fail)
      all_goals first
        | (have hal := hat (by omega) (by assumption)
           (refine At_ret Try.results74 rfl (fun w' hw => ?_))
           unfold naiM
           rw [e0]
           dsimp only
           rw [if_pos (by assumption), if_pos hal]
           exact ⟨(B, c), rfl, (hw.sub (List.sublist_cons_self _ _)).anyN 0⟩)
        | (refine At_rounds (j + 1) ⟨by omega, ?_⟩ (by omega) (by (repeat (first | exact SubE.nil _ | refine SubE.cons rfl ?_))) (fun w hw => hw.sub (List.sublist_cons_self _ _))
           rw [hs]
           first
             | (rw [decide_eq_true (by omega : j = k)]; rfl)
             | (rw [show ps[j].flag = false by assumption]; simp))
    · obtain rfl : j = a.n := by omega
      rw [show a.n = ps.length from h1.symm] at hno
      repeat' (first | ((first | with_reducible (first | apply TL_q | apply TD_q0 | apply TD_q1 | apply TD_q2 | apply TD_q3) | ((with_reducible (first | apply TD_q0y | apply TD_q1y)); exact rfl; exact rfl; (with_reducible exact rfl))); (first | ((with_reducible apply QS_load); exact rfl; exact Lds.ownSet (by first | ((repeat (first | with_reducible exact List.mem_cons_self | with_reducible apply List.mem_cons_of_mem)); done) | (repeat (first | exact List.Mem.head _ | apply List.Mem.tail))) (fun _ => rfl) (by omega) (by rw [Pr.enc_mk]; rfl)) | ((with_reducible apply QS_load); exact rfl; exact Lds.ownSet0 (by first | ((repeat (first | with_reducible exact List.mem_cons_self | with_reducible apply List.mem_cons_of_mem)); done) | (repeat (first | exact List.Mem.head _ | apply List.Mem.tail))) (fun _ => rfl) (by omega) (by rw [Pr.enc_mk]; rfl)) | exact QS.auto); exact rfl) | ((with_reducible (first | apply TD_e2z | apply TD_e3z | apply TL_e | apply TD_e2 | apply TD_e3)); (first | ((with_reducible apply ES_storeOwn (enc := Pr.enc)); exact rfl; exact rfl; (first | ((repeat (first | with_reducible exact Upd.here _ _ _ | with_reducible apply Upd.there)); done) | (repeat (first | exact Upd.here _ _ _ | apply Upd.there))); exact fun _ => rfl; ((first | exact List.getElem?_set_self (by first | assumption | omega) | exact List.getElem?_eq_getElem (by first | assumption | omega | (simp only [List.length_set]; omega)))); decide; exact Pr.enc_mk _ _ _ _ _; exact rfl) | ((with_reducible apply ES_storeOwn0 (enc := Pr.enc)); exact rfl; exact rfl; (first | ((repeat (first | with_reducible exact Upd.here _ _ _ | with_reducible apply Upd.there)); done) | (repeat (first | exact Upd.here _ _ _ | apply Upd.there))); exact fun _ => rfl; ((first | exact List.getElem?_set_self (by first | assumption | omega) | exact List.getElem?_eq_getElem (by first | assumption | omega | (simp only [List.length_set]; omega)))); decide; exact Pr.enc_mk _ _ _ _ _; exact rfl) | exact ES.auto); (first | exact rfl | exact ⟨rfl, rfl, rfl⟩); (first | (rintro _ _ ⟨rfl, rfl⟩) | (rintro _ _ ⟨g, rfl, rfl⟩) | (rintro _ _ ⟨A', c', rfl, rfl⟩)); (try refine ⟨SUB, ?_⟩)) | (refine GG ?_) | (refine GE ?_; (first | (rintro _ _ ⟨rfl, rfl⟩) | (rintro _ _ ⟨g, rfl, rfl⟩) | (rintro _ _ ⟨A', c', rfl, rfl⟩)); (try refine ⟨SUB, ?_⟩)) | ((refine GO2 ?_ ?_) <;> intro h <;> (try (repeat (first | with_reducible (replace h := of_decide_eq_true h) | with_reducible (replace h := of_decide_eq_false h) | with_reducible (replace h := bnt h) | with_reducible (replace h := bnf h) | with_reducible (replace h := Int.not_lt.mp h) | with_reducible (replace h := Int.not_le.mp h) | with_reducible (replace h := band_dec h) | with_reducible (replace h := band_decF h) | with_reducible (replace h := bor_dec h) | with_reducible (replace h := bor_decF h)))) <;> (try (exfalso; first | contradiction | omega))) | (refine GOF ?_ ?_) | fail)
      (refine At_retN Try.results74 rfl (fun w' hw => ?_))
      unfold naiM
      rw [e0]
      dsimp only
      rw [if_pos (by assumption), hno, if_neg (by simp)]
      exact ⟨(B, c), rfl, hw.anyN 0⟩
  (all_goals (first | ((refine At_retN Try.results74 rfl (fun w' hw => ?_)); (unfold naiM; (try rw [List.set_set] at hw); rw [e0]; skip; dsimp only; (repeat' split) <;> (first | (exfalso; omega) | exact ⟨(B, c), rfl, hw.anyN 0⟩ | exact ⟨x, rfl, hw.anyN 0⟩ | (exfalso; simp_all; done)))) | ((refine At_ret Try.results74 rfl (fun w' hw => ?_)); (unfold naiM; (try rw [List.set_set] at hw); rw [e0]; skip; dsimp only; (repeat' split) <;> (first | (exfalso; omega) | exact ⟨(B, c), rfl, hw.anyN 0⟩ | exact ⟨x, rfl, hw.anyN 0⟩ | (exfalso; simp_all; done))))))
end
end Go.Proofs.Ytiimjppceobkfaa

namespace Go.Proofs.Ytiimjppceobkfaa
open Go.RowKit
set_option linter.unusedSectionVars false

theorem maxN_succ {l : List Int} {j : Nat} (h : j < l.length) : maxN (l.take (j + 1)) = max (maxN (l.take j)) l[j] := by
  unfold maxN
  rw [List.take_succ_eq_append_getElem h, List.foldl_append]; rfl
section
variable (a : MP) (B : Option Addr) (c : Nat) (st : Ms) (k : Nat) (n0 : Nat) (w : World) (hk : k < a.n) (hst : MsOk a.n st) (hm : Mem ⟨n0, blks (machM a B c st), w⟩ w (machM a B c st))
include hk hst hm
set_option maxRecDepth 100000 in
set_option maxHeartbeats 4000000 in
theorem bak_any (hk3 : (st.at k).step = 3 ∨ (st.at k).step = 4 → 0 ≤ (st.at k).k ∧ (st.at k).k < a.n) : Calls Try.prog 73 #[.pointer (some ⟨a.m, 0, none⟩), .int .i64 (k : Nat), .pointer (some ⟨a.g, k * 5, none⟩)] w (MPost a B c st (bakM st k) w) := by
  have hmx : ∀ j, j ≤ a.n → 0 ≤ maxN ((st.ps.map (·.number)).take j) ∧ maxN ((st.ps.map (·.number)).take j) ≤ 600 := fun j hj => maxN_le (fun x hx => by
    obtain ⟨i, hi, rfl⟩ := List.mem_iff_getElem.1 (List.mem_of_mem_take hx)
    have h1 : st.ps.length = a.n := hst.len
    have h2 := hst.number i (by simpa [h1] using hi)
    have : st.at i = st.ps[i]'(by simpa using hi) := by simp [Ms.at, show i < st.ps.length by simpa using hi]
    rw [this] at h2
    simpa using h2.2) (by omega)
  have h1 : st.ps.length = a.n := hst.len
  have h2 := hst.left k hk
  have h3 := hst.step k hk
  have h4 := hst.n4
  have h5 := hst.number k hk
  have e0 : st.at k = st.ps[k] := by simp [Ms.at, h1, hk]
  rw [e0] at h2 h3 h5 hk3
  obtain ⟨ps, turn, inn, most, gates⟩ := st
  have hent := fun {C : Ctx} {R : List Ent} (w' : World) (hw : Mem C w' (machM a B c ⟨ps, turn, inn, most, gates⟩ ++ R)) => enter_any a B c ⟨ps, turn, inn, most, gates⟩ k 0 w' hk hst (hw.self 0)
  have hexi := fun {C : Ctx} {R : List Ent} (w' : World) (hw : Mem C w' (machM a B c ⟨ps, turn, inn, most, gates⟩ ++ R)) => exit_any a B c ⟨ps, turn, inn, most, gates⟩ k 0 w' hk hst (hw.self 0)
  dsimp only at h1 h2 h3 h5 e0 hk3 hmx
  unfold MPost
  generalize blks (machM a B c ⟨ps, turn, inn, most, gates⟩) = F at hm ⊢
  have hend := fun {C : Ctx} {R : List Ent} (w' : World) (hw : Mem C w' (machM a B c ⟨ps.set k ⟨ps[k].step, ps[k].left, ps[k].flag, 0, ps[k].k⟩, turn, inn, most, gates⟩ ++ R)) => end_set (n0 := 0) hk h1 (p := ⟨ps[k].step, ps[k].left, ps[k].flag, 0, ps[k].k⟩) h2 (hw.self 0)
  have e4 : ∀ (h : ps[k].k.toNat < ps.length), (⟨ps, turn, inn, most, gates⟩ : Ms).at ps[k].k.toNat = ps[ps[k].k.toNat] := fun h => by
    show ps.getD _ default = _
    rw [List.getD_eq_getElem?_getD, List.getElem?_eq_getElem h]; rfl
  refine calls_T F Try.func73 rfl Try.ntmps73 (by simp) (hm.anyN _) ?_
  rw [machM]
  repeat' (first | ((first | with_reducible (first | apply TL_q | apply TD_q0 | apply TD_q1 | apply TD_q2 | apply TD_q3) | ((with_reducible (first | apply TD_q0y | apply TD_q1y)); exact rfl; exact rfl; (with_reducible exact rfl))); (first | ((with_reducible apply QS_load); exact rfl; exact Lds.ownSet (by first | ((repeat (first | with_reducible exact List.mem_cons_self | with_reducible apply List.mem_cons_of_mem)); done) | (repeat (first | exact List.Mem.head _ | apply List.Mem.tail))) (fun _ => rfl) (by first | omega | (simp only [List.length_set]; omega)) (by rw [Pr.enc_mk]; first | (dsimp only; rfl) | dsimp only | rfl)) | ((with_reducible apply QS_load); exact rfl; exact Lds.ownSet0 (by first | ((repeat (first | with_reducible exact List.mem_cons_self | with_reducible apply List.mem_cons_of_mem)); done) | (repeat (first | exact List.Mem.head _ | apply List.Mem.tail))) (fun _ => rfl) (by first | omega | (simp only [List.length_set]; omega)) (by rw [Pr.enc_mk]; first | (dsimp only; rfl) | dsimp only | rfl)) | exact QS.auto); exact rfl) | ((with_reducible (first | apply TD_e2z | apply TD_e3z | apply TL_e | apply TD_e2 | apply TD_e3)); (first | ((with_reducible apply ES_storeOwn (enc := Pr.enc)); exact rfl; exact rfl; (first | ((repeat (first | with_reducible exact Upd.here _ _ _ | with_reducible apply Upd.there)); done) | (repeat (first | exact Upd.here _ _ _ | apply Upd.there))); exact fun _ => rfl; ((first | exact List.getElem?_set_self (by first | assumption | omega | (simp only [List.length_set]; omega)) | exact List.getElem?_eq_getElem (by first | assumption | omega | (simp only [List.length_set]; omega)))); decide; exact Pr.enc_mk _ _ _ _ _; exact rfl) | ((with_reducible apply ES_storeOwn0 (enc := Pr.enc)); exact rfl; exact rfl; (first | ((repeat (first | with_reducible exact Upd.here _ _ _ | with_reducible apply Upd.there)); done) | (repeat (first | exact Upd.here _ _ _ | apply Upd.there))); exact fun _ => rfl; ((first | exact List.getElem?_set_self (by first | assumption | omega | (simp only [List.length_set]; omega)) | exact List.getElem?_eq_getElem (by first | assumption | omega | (simp only [List.length_set]; omega)))); decide; exact Pr.enc_mk _ _ _ _ _; exact rfl) | exact ES.auto); (first | exact rfl | exact ⟨rfl, rfl, rfl⟩); (first | (rintro _ _ ⟨rfl, rfl⟩) | (rintro _ _ ⟨g, rfl, rfl⟩) | (rintro _ _ ⟨A', c', rfl, rfl⟩)); (try refine ⟨SUB, ?_⟩)) | (refine GG ?_) | (refine GE ?_; (first | (rintro _ _ ⟨rfl, rfl⟩) | (rintro _ _ ⟨g, rfl, rfl⟩) | (rintro _ _ ⟨A', c', rfl, rfl⟩)); (try refine ⟨SUB, ?_⟩)) | ((refine GO2 ?_ ?_) <;> intro h <;> (try (repeat (first | with_reducible (replace h := of_decide_eq_true h) | with_reducible (replace h := of_decide_eq_false h) | with_reducible (replace h := bnt h) | with_reducible (replace h := bnf h) | with_reducible (replace h := Int.not_lt.mp h) | with_reducible (replace h := Int.not_le.mp h) | with_reducible (replace h := band_dec h) | with_reducible (replace h := band_decF h) | with_reducible (replace h := bor_dec h) | with_reducible (replace h := bor_decF h)))) <;> (try (exfalso; first | contradiction | omega))) | (refine GOF ?_ ?_) | ((with_reducible apply T_draw (id := 16) 1000 (OT.seq [(0, 0), (0, 1), (0, 2), (0, 4), (0, 5), (0, 6), (1, 3), (1, 7), (0, 8), (0, 9)] .nil)); kernel_rfl; exact rfl; kernel_rfl; (repeat (first | with_reducible exact Blind.body | with_reducible apply Blind.seq | with_reducible apply Blind.block))) | ((with_reducible apply T_draw (id := 19) 1000 (OT.seq [(0, 0), (0, 1), (0, 2), (0, 4), (0, 5), (0, 6), (1, 3), (1, 7), (0, 8), (0, 9), (1, 10)] .nil)); kernel_rfl; exact rfl; kernel_rfl; (repeat (first | with_reducible exact Blind.body | with_reducible apply Blind.seq | with_reducible apply Blind.block))) | ((with_reducible apply T_draw (id := 21) 1000 (OT.seq [(0, 0), (0, 1), (0, 2), (0, 4), (0, 5), (0, 6), (1, 3), (1, 7), (0, 8), (0, 9), (1, 10), (0, 11)] .nil)); kernel_rfl; exact rfl; kernel_rfl; (repeat (first | with_reducible exact Blind.body | with_reducible apply Blind.seq | with_reducible apply Blind.block))) | ((with_reducible apply T_draw (id := 24) 1000 (OT.seq [(0, 0), (0, 1), (0, 2), (0, 4), (0, 5), (0, 6), (1, 3), (1, 7), (0, 8), (0, 9)] .nil)); kernel_rfl; exact rfl; kernel_rfl; (repeat (first | with_reducible exact Blind.body | with_reducible apply Blind.seq | with_reducible apply Blind.block))) | ((with_reducible (first | apply TD_e2z | apply TD_e3z | apply TL_e | apply TD_e2 | apply TD_e3)); ((with_reducible apply ES_callV (f := 137)); exact rfl; (intro w hw; exact other_any _ _ _ (by omega) (by omega)); exact rfl); (first | exact rfl | exact ⟨rfl, rfl, rfl⟩); (rintro _ _ ⟨rfl, rfl⟩); (try refine ⟨SUB, ?_⟩)) | ((with_reducible (first | apply TD_e2z | apply TD_e3z | apply TL_e | apply TD_e2 | apply TD_e3)); ((with_reducible apply ES_callX (f := 134) (X := Option Addr × Nat) (S1 := machM a B c ⟨ps, turn, inn, most, gates⟩) (fun _ => .tuple #[]) (fun y => machM a y.1 y.2 ⟨ps, turn, inn + 1, max most (inn + 1), gates ++ [⟨k, true⟩]⟩)); exact rfl; (rw [machM]; (repeat (first | exact Pull.nil _ | (apply Pull.cons; (repeat (first | with_reducible exact Pick.here _ _ | with_reducible apply Pick.there)))))); (intro y; rw [machM]; repeat (first | exact AppL.nil _ | apply AppL.cons)); (intro w' hw; exact hent _ hw); exact rfl); (first | exact rfl | exact ⟨rfl, rfl, rfl⟩); (rintro _ _ ⟨x, rfl, rfl⟩); (try refine ⟨SUB, ?_⟩)) | ((with_reducible (first | apply TD_e2z | apply TD_e3z | apply TL_e | apply TD_e2 | apply TD_e3)); ((with_reducible apply ES_callX (f := 135) (X := Option Addr × Nat) (S1 := machM a B c ⟨ps, turn, inn, most, gates⟩) (fun _ => .tuple #[]) (fun y => machM a y.1 y.2 ⟨ps, turn, inn - 1, most, gates ++ [⟨k, false⟩]⟩)); exact rfl; (rw [machM]; (repeat (first | exact Pull.nil _ | (apply Pull.cons; (repeat (first | with_reducible exact Pick.here _ _ | with_reducible apply Pick.there)))))); (intro y; rw [machM]; repeat (first | exact AppL.nil _ | apply AppL.cons)); (intro w' hw; exact hexi _ hw); exact rfl); (first | exact rfl | exact ⟨rfl, rfl, rfl⟩); (rintro _ _ ⟨x, rfl, rfl⟩); (try refine ⟨SUB, ?_⟩)) | ((with_reducible (first | apply TD_e2z | apply TD_e3z | apply TL_e | apply TD_e2 | apply TD_e3)); ((with_reducible apply ES_callX (f := 136) (X := Option Addr × Nat) (S1 := machM a B c ⟨ps.set k ⟨ps[k].step, ps[k].left, ps[k].flag, 0, ps[k].k⟩, turn, inn, most, gates⟩) (fun _ => .tuple #[]) (fun y => machM a y.1 y.2 ⟨ps.set k ⟨0, ps[k].left - 1, ps[k].flag, 0, ps[k].k⟩, turn, inn, most, gates⟩)); exact rfl; (rw [machM]; (repeat (first | exact Pull.nil _ | (apply Pull.cons; (repeat (first | with_reducible exact Pick.here _ _ | with_reducible apply Pick.there)))))); (intro y; rw [machM]; repeat (first | exact AppL.nil _ | apply AppL.cons)); (intro w' hw; exact hend _ hw); exact rfl); (first | exact rfl | exact ⟨rfl, rfl, rfl⟩); (rintro _ _ ⟨x, rfl, rfl⟩); (try refine ⟨SUB, ?_⟩)) | fail)
  rotate_left 1
  · have hone : ps[k].step = 1 := by assumption
    refine T_loop (X := Nat) (fun j => [(32, .int .i64 (j : Nat)), (31, .int .i64 a.n), (30, .slice (some ⟨a.g, 0, none⟩) a.n a.n), (6, .int .i64 (maxN ((ps.map (·.number)).take j))), (13, .int .i64 ps[k].step), (0, .pointer (some ⟨a.m, 0, none⟩)), (1, .int .i64 (k : Nat)), (2, .pointer (some ⟨a.g, k * 5, none⟩))])
      (fun _ => [entBlk a.m 134 #[.slice (some ⟨a.g, 0, none⟩) a.n a.n, .int .i64 turn, .int .i64 inn, .int .i64 most, .slice B gates.length c], entOwn Pr.enc 5 136 (some ⟨a.g, 0, none⟩) a.n ps, entOwn Gt.enc 2 32 B c gates])
      (fun j => j ≤ a.n) (fun j => a.n - j) 0 (by omega) (by (repeat (first | exact SubE.nil _ | refine SubE.cons rfl ?_))) (fun w hw => hw) ?_
    intro j hj
    have hmj := hmx j hj
    by_cases hjl : j < a.n
    · have hms := maxN_succ (l := ps.map (·.number)) (j := j) (by simp; omega)
      rw [List.getElem_map] at hms
      generalize maxN ((ps.map (·.number)).take j) = M at *
      repeat' (first | ((first | with_reducible (first | apply TL_q | apply TD_q0 | apply TD_q1 | apply TD_q2 | apply TD_q3) | ((with_reducible (first | apply TD_q0y | apply TD_q1y)); exact rfl; exact rfl; (with_reducible exact rfl))); (first | ((with_reducible apply QS_load); exact rfl; exact Lds.ownSet (by first | ((repeat (first | with_reducible exact List.mem_cons_self | with_reducible apply List.mem_cons_of_mem)); done) | (repeat (first | exact List.Mem.head _ | apply List.Mem.tail))) (fun _ => rfl) (by first | omega | (simp only [List.length_set]; omega)) (by rw [Pr.enc_mk]; first | (dsimp only; rfl) | dsimp only | rfl)) | ((with_reducible apply QS_load); exact rfl; exact Lds.ownSet0 (by first | ((repeat (first | with_reducible exact List.mem_cons_self | with_reducible apply List.mem_cons_of_mem)); done) | (repeat (first | exact List.Mem.head _ | apply List.Mem.tail))) (fun _ => rfl) (by first | omega | (simp only [List.length_set]; omega)) (by rw [Pr.enc_mk]; first | (dsimp only; rfl) | dsimp only | rfl)) | exact QS.auto); exact rfl) | ((with_reducible (first | apply TD_e2z | apply TD_e3z | apply TL_e | apply TD_e2 | apply TD_e3)); (first | ((with_reducible apply ES_storeOwn (enc := Pr.enc)); exact rfl; exact rfl; (first | ((repeat (first | with_reducible exact Upd.here _ _ _ | with_reducible apply Upd.there)); done) | (repeat (first | exact Upd.here _ _ _ | apply Upd.there))); exact fun _ => rfl; ((first | exact List.getElem?_set_self (by first | assumption | omega | (simp only [List.length_set]; omega)) | exact List.getElem?_eq_getElem (by first | assumption | omega | (simp only [List.length_set]; omega)))); decide; exact Pr.enc_mk _ _ _ _ _; exact rfl) | ((with_reducible apply ES_storeOwn0 (enc := Pr.enc)); exact rfl; exact rfl; (first | ((repeat (first | with_reducible exact Upd.here _ _ _ | with_reducible apply Upd.there)); done) | (repeat (first | exact Upd.here _ _ _ | apply Upd.there))); exact fun _ => rfl; ((first | exact List.getElem?_set_self (by first | assumption | omega | (simp only [List.length_set]; omega)) | exact List.getElem?_eq_getElem (by first | assumption | omega | (simp only [List.length_set]; omega)))); decide; exact Pr.enc_mk _ _ _ _ _; exact rfl) | exact ES.auto); (first | exact rfl | exact ⟨rfl, rfl, rfl⟩); (first | (rintro _ _ ⟨rfl, rfl⟩) | (rintro _ _ ⟨g, rfl, rfl⟩) | (rintro _ _ ⟨A', c', rfl, rfl⟩)); (try refine ⟨SUB, ?_⟩)) | (refine GG ?_) | (refine GE ?_; (first | (rintro _ _ ⟨rfl, rfl⟩) | (rintro _ _ ⟨g, rfl, rfl⟩) | (rintro _ _ ⟨A', c', rfl, rfl⟩)); (try refine ⟨SUB, ?_⟩)) | ((refine GO2 ?_ ?_) <;> intro h <;> (try (repeat (first | with_reducible (replace h := of_decide_eq_true h) | with_reducible (replace h := of_decide_eq_false h) | with_reducible (replace h := bnt h) | with_reducible (replace h := bnf h) | with_reducible (replace h := Int.not_lt.mp h) | with_reducible (replace h := Int.not_le.mp h) | with_reducible (replace h := band_dec h) | with_reducible (replace h := band_decF h) | with_reducible (replace h := bor_dec h) | with_reducible (replace h := bor_decF h)))) <;> (try (exfalso; first | contradiction | omega))) | (refine GOF ?_ ?_) | fail)
      refine At_rounds (j + 1) (by omega) (by omega) ?_ (fun w hw => hw.sub (List.sublist_cons_self _ _))
      rw [hms]
      (repeat (first | exact SubE.nil _ | refine SubE.cons rfl ?_))
    · obtain rfl : j = a.n := by omega
      rw [show (ps.map (·.number)).take a.n = ps.map (·.number) from List.take_of_length_le (by simp; omega)] at hmj ⊢
      generalize hM : maxN (ps.map (·.number)) = M at *
      repeat' (first | ((first | with_reducible (first | apply TL_q | apply TD_q0 | apply TD_q1 | apply TD_q2 | apply TD_q3) | ((with_reducible (first | apply TD_q0y | apply TD_q1y)); exact rfl; exact rfl; (with_reducible exact rfl))); (first | ((with_reducible apply QS_load); exact rfl; exact Lds.ownSet (by first | ((repeat (first | with_reducible exact List.mem_cons_self | with_reducible apply List.mem_cons_of_mem)); done) | (repeat (first | exact List.Mem.head _ | apply List.Mem.tail))) (fun _ => rfl) (by first | omega | (simp only [List.length_set]; omega)) (by rw [Pr.enc_mk]; first | (dsimp only; rfl) | dsimp only | rfl)) | ((with_reducible apply QS_load); exact rfl; exact Lds.ownSet0 (by first | ((repeat (first | with_reducible exact List.mem_cons_self | with_reducible apply List.mem_cons_of_mem)); done) | (repeat (first | exact List.Mem.head _ | apply List.Mem.tail))) (fun _ => rfl) (by first | omega | (simp only [List.length_set]; omega)) (by rw [Pr.enc_mk]; first | (dsimp only; rfl) | dsimp only | rfl)) | exact QS.auto); exact rfl) | ((with_reducible (first | apply TD_e2z | apply TD_e3z | apply TL_e | apply TD_e2 | apply TD_e3)); (first | ((with_reducible apply ES_storeOwn (enc := Pr.enc)); exact rfl; exact rfl; (first | ((repeat (first | with_reducible exact Upd.here _ _ _ | with_reducible apply Upd.there)); done) | (repeat (first | exact Upd.here _ _ _ | apply Upd.there))); exact fun _ => rfl; ((first | exact List.getElem?_set_self (by first | assumption | omega | (simp only [List.length_set]; omega)) | exact List.getElem?_eq_getElem (by first | assumption | omega | (simp only [List.length_set]; omega)))); decide; exact Pr.enc_mk _ _ _ _ _; exact rfl) | ((with_reducible apply ES_storeOwn0 (enc := Pr.enc)); exact rfl; exact rfl; (first | ((repeat (first | with_reducible exact Upd.here _ _ _ | with_reducible apply Upd.there)); done) | (repeat (first | exact Upd.here _ _ _ | apply Upd.there))); exact fun _ => rfl; ((first | exact List.getElem?_set_self (by first | assumption | omega | (simp only [List.length_set]; omega)) | exact List.getElem?_eq_getElem (by first | assumption | omega | (simp only [List.length_set]; omega)))); decide; exact Pr.enc_mk _ _ _ _ _; exact rfl) | exact ES.auto); (first | exact rfl | exact ⟨rfl, rfl, rfl⟩); (first | (rintro _ _ ⟨rfl, rfl⟩) | (rintro _ _ ⟨g, rfl, rfl⟩) | (rintro _ _ ⟨A', c', rfl, rfl⟩)); (try refine ⟨SUB, ?_⟩)) | (refine GG ?_) | (refine GE ?_; (first | (rintro _ _ ⟨rfl, rfl⟩) | (rintro _ _ ⟨g, rfl, rfl⟩) | (rintro _ _ ⟨A', c', rfl, rfl⟩)); (try refine ⟨SUB, ?_⟩)) | ((refine GO2 ?_ ?_) <;> intro h <;> (try (repeat (first | with_reducible (replace h := of_decide_eq_true h) | with_reducible (replace h := of_decide_eq_false h) | with_reducible (replace h := bnt h) | with_reducible (replace h := bnf h) | with_reducible (replace h := Int.not_lt.mp h) | with_reducible (replace h := Int.not_le.mp h) | with_reducible (replace h := band_dec h) | with_reducible (replace h := band_decF h) | with_reducible (replace h := bor_dec h) | with_reducible (replace h := bor_decF h)))) <;> (try (exfalso; first | contradiction | omega))) | (refine GOF ?_ ?_) | fail)
      (refine At_retN Try.results73 rfl (fun w' hw => ?_))
      (repeat rw [List.set_set] at hw)
      unfold bakM
      rw [e0]
      dsimp only
      rw [if_neg (by omega), if_pos hone, hM]
      exact ⟨(B, c), rfl, hw.anyN 0⟩
  (all_goals (first | ((refine At_retN Try.results73 rfl (fun w' hw => ?_)); (unfold bakM; (repeat rw [List.set_set] at hw); rw [e0]; dsimp only; (try rw [e4 (by omega)]); (repeat' split) <;> (first | (exfalso; omega) | exact ⟨(B, c), rfl, hw.anyN 0⟩ | exact ⟨x, rfl, hw.anyN 0⟩ | (exfalso; simp_all; done)))) | ((refine At_ret Try.results73 rfl (fun w' hw => ?_)); (unfold bakM; (repeat rw [List.set_set] at hw); rw [e0]; dsimp only; (try rw [e4 (by omega)]); (repeat' split) <;> (first | (exfalso; omega) | exact ⟨(B, c), rfl, hw.anyN 0⟩ | exact ⟨x, rfl, hw.anyN 0⟩ | (exfalso; simp_all; done))))))
end
end Go.Proofs.Ytiimjppceobkfaa
