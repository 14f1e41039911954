/- Interfaces: the values behind them, the calls of their methods. No condition. -/
import Derived.Test.YtkhdihieepfcpaaP
namespace Go.Proofs.Ytkhdihieepfcpaa
open Go.RowKit

/-- a type that is no interface -/
class PlainT (P : Program) (t : Nat) : Prop where
  make : ∀ (v : Value) (w : World), (Instr.makeInterface t v).run P w = .ok (.iface t v) w
/-- an interface type -/
class IfaceT (P : Program) (t : Nat) : Prop where
  und : ∃ ms, P.underlying t = some (.interface ms)
theorem plainT_of {P : Program} {t : Nat} {fs : Array Field} (h : P.underlying t = some (.struct fs)) : PlainT P t := ⟨fun v w => by simp [Instr.makeInterface, run_underlying h]⟩
/-- a method of a type, called by value -/
class MethodOf (P : Program) (t : Nat) (name : String) (v : Value) (f : outParam Nat) (r : outParam Value) : Prop where
  run : ∀ w, (method (P.types.size + Made.depth) t v name).run P w = .ok (f, r) w
section
variable {P : Program} {C : Ctx} {Q : Exit → Act → World → Prop} {E : Slots} {S S1 R S2 : List Ent}
variable {d ty ty2 ty3 t : Nat} {ps : String} {af : Array Edge} {g0 : Option (Nat × Bool)} {f : Nat} {x y : Operand} {v r : Value}
theorem QS_makeInterface [hs : PlainT P t] (hx : evo E x = some v) : QS P C E S (.makeInterface t x) ty (.iface t v) :=
  QS.of (fun a w ha _ => by
    have := hs.make v w
    simp [execOp, ha.evo hx, this])
theorem run_equal_ifaceNil [h : IfaceT P t] (u : Nat) (v : Value) (w : World) : (Op.equal t (.iface u v) .nilIface).run P w = .ok false w := by
  obtain ⟨ms, h⟩ := h.und
  unfold Op.equal Op.maxDepth Op.equalIn
  simp [run_underlying h]
theorem run_equal_nilNil [h : IfaceT P t] (w : World) : (Op.equal t .nilIface .nilIface).run P w = .ok true w := by
  obtain ⟨ms, h⟩ := h.und
  unfold Op.equal Op.maxDepth Op.equalIn
  simp [run_underlying h]
theorem QS_ifaceSome [IfaceT P t] {u : Nat} (hx : evo E x = some (.iface u v)) (hy : evo E y = some .nilIface) : QS P C E S (.binOp .eql t x y ty3) ty (.bool false) :=
  QS.of (fun a w ha _ => by
    unfold execOp
    simp only [ha.evo hx, ha.evo hy]
    have hg : (eqGuard .eql t x y (.iface u v) .nilIface).run P w = .ok () w := rfl
    have hb : (binOp .eql t (.iface u v) .nilIface).run P w = .ok (.bool false) w := by
      unfold binOp; simp [run_equal_ifaceNil]
    simp only [Sem.run_bind, hg, Result.andThen_ok, hb]; rfl)
theorem QS_ifaceNil [IfaceT P t] {z : Value} (hx : evo E x = some .nilIface) (hz : z = .nilIface) : QS P C E S (.binOp .eql t x (.const z) ty3) ty (.bool true) :=
  QS.of (fun a w ha _ => by
    subst hz
    unfold execOp
    simp only [ha.evo hx]
    have hg : (eqGuard .eql t x (.const .nilIface) .nilIface .nilIface).run P w = .ok () w := by
      unfold eqGuard
      cases x <;> rfl
    have hb : (binOp .eql t .nilIface .nilIface).run P w = .ok (.bool true) w := by
      unfold binOp; simp [run_equal_nilNil]
    simp only [Act.eval, Sem.run_bind, hg, Result.andThen_ok, hb]; rfl)
/-- a method taken as a value: the look at its receiver -/
theorem QS_nilCheckM {u : Nat} {name : String} {cs : Array Value} (hx : evo E x = some (.func (.method name) #[.iface u v] cs)) (hm : ∀ w, (nilAhead (P.types.size + Made.depth) u v name).run P w = .ok (some false) w) : QS P C E S (.nilCheck x) ty (.func (.method name) #[.iface u v] cs) :=
  QS.of (fun a w ha _ => by
    have hp : (program).run P w = .ok P w := rfl
    simp [execOp, ha.evo hx, hp, hm w])
theorem run_invoke [hf : IsFn P f] {u : Nat} {name : String} {xs : List Operand} {vs : List Value} {ats : Array TypeId} (hv : evo E x = some (.iface u v)) (hm : MethodOf P u name v f r) (hx : evs E xs = some vs) {a : Act} {w : World} (ha : Env C.n a E) :
    (execOp a.eval ⟨some d, .call ⟨.invoke x name, xs.toArray, ats⟩, ty, ps, af, g0⟩).run P w = .ok (.enter f (r :: vs).toArray) w := by
  have h1 := ha.evo hv
  have h2 := evs_toArray ha hx
  have hp : (program).run P w = .ok P w := rfl
  have h3 := hf.run (r :: vs).toArray w
  have e1 : (#[Value.iface u v] ++ vs.toArray).extract 1 (#[Value.iface u v] ++ vs.toArray).size = vs.toArray := by simp
  have e2 : (#[Value.iface u v] ++ vs.toArray)[0]? = some (.iface u v) := by simp
  have e3 : #[r] ++ vs.toArray = (r :: vs).toArray := by simp
  simp only [execOp, resolve, h1, h2, Sem.run_bind, Sem.run_pure, Result.andThen_ok, invoke, e2, e1, callMethod, hp, hm.run w, e3, h3]
/-- a call of a method that leaves all alone -/
theorem ES_invokeV [hf : IsFn P f] {u : Nat} {name : String} {xs : List Operand} {vs : List Value} {ats : Array TypeId} {z : Value} (hv : evo E x = some (.iface u v)) (hm : MethodOf P u name v f r) (hx : evs E xs = some vs)
    (hc : ∀ w, Mem C w S → Calls P f (r :: vs).toArray w fun e w' => e = .returned z ∧ Below w.heap.size w w') (hd : Nat.ble (d + 1) C.n = true) :
    ES P C E S ⟨some d, .call ⟨.invoke x name, xs.toArray, ats⟩, ty, ps, af, g0⟩ (fun E' S' => E' = (d, z) :: E ∧ S' = S) := by
  refine (ES_enter (fun u T => u = z ∧ T = S) (fun a w ha => run_invoke hv hm hx ha) (fun w hw => (hc w hw).mono fun e w' ⟨he, hb⟩ => ⟨z, _, he, hw.below hb, rfl, rfl⟩) hd).weak (by rintro _ _ ⟨_, ⟨rfl, rfl⟩, rfl⟩; exact ⟨rfl, rfl⟩)
/-- a call of a method that turns what it is handed -/
theorem ES_invokeX [hf : IsFn P f] {X : Type} {u : Nat} {name : String} {xs : List Operand} {vs : List Value} {ats : Array TypeId} (z : X → Value) (S1' : X → List Ent) {S2 : X → List Ent} (hv : evo E x = some (.iface u v)) (hm : MethodOf P u name v f r) (hx : evs E xs = some vs)
    (hS : Pull S S1 R) (hA : ∀ x, AppL (S1' x) R (S2 x))
    (hc : ∀ w, Mem C w (S1 ++ R) → Calls P f (r :: vs).toArray w fun e w' => ∃ x, e = .returned (z x) ∧ Mem ⟨0, blks S1, w⟩ w' (S1' x)) (hd : Nat.ble (d + 1) C.n = true) :
    ES P C E S ⟨some d, .call ⟨.invoke x name, xs.toArray, ats⟩, ty, ps, af, g0⟩ (fun E' S' => ∃ x, E' = (d, z x) :: E ∧ S' = S2 x) :=
  (ES_enter (fun u T => ∃ x, u = z x ∧ T = S2 x) (fun a w ha => run_invoke hv hm hx ha) (fun w hw => (hc w (hw.pull hS)).mono fun e w' ⟨x, he, hb⟩ => ⟨z x, _, he, (hw.pull hS).frame hb, x, rfl, (hA x).eq⟩) hd).weak
    (by rintro _ _ ⟨_, ⟨x, rfl, rfl⟩, rfl⟩; exact ⟨x, rfl, rfl⟩)
/-- a call that turns what it is handed, to something of some shape -/
theorem ES_callX [hf : IsFn P f] {X : Type} {xs : List Operand} {vs : List Value} {ats : Array TypeId} (z : X → Value) (S1' : X → List Ent) {S2 : X → List Ent} (hx : evs E xs = some vs)
    (hS : Pull S S1 R) (hA : ∀ x, AppL (S1' x) R (S2 x))
    (hc : ∀ w, Mem C w (S1 ++ R) → Calls P f vs.toArray w fun e w' => ∃ x, e = .returned (z x) ∧ Mem ⟨0, blks S1, w⟩ w' (S1' x)) (hd : Nat.ble (d + 1) C.n = true) :
    ES P C E S ⟨some d, .call ⟨.value (.func f), xs.toArray, ats⟩, ty, ps, af, g0⟩ (fun E' S' => ∃ x, E' = (d, z x) :: E ∧ S' = S2 x) :=
  (ES_call (fun u T => ∃ x, u = z x ∧ T = S2 x) hx (fun w hw => (hc w (hw.pull hS)).mono fun e w' ⟨x, he, hb⟩ => ⟨z x, _, he, (hw.pull hS).frame hb, x, rfl, (hA x).eq⟩) hd).weak
    (by rintro _ _ ⟨_, ⟨x, rfl, rfl⟩, rfl⟩; exact ⟨x, rfl, rfl⟩)
end
/-! Structs without a cell -/
/-- a field without a cell, of a struct without one -/
class FieldZ (P : Program) (s f : Nat) : Prop where
  run : ∃ (fs : Array Field) (fd : Field), P.underlying s = some (.struct fs) ∧ fs[f]? = some fd ∧ fd.offset = 0 ∧ fd.byteOffset = 0 ∧ ∀ w, (sizeOf fd.type).run P w = .ok 0 w
class CellsZ (P : Program) (t : Nat) : Prop where
  z : P.cellsOf t = 0
theorem run_byteOf0 {P : Program} {g t o : Nat} [hz : CellsZ P t] {w : World} {cs : Array Value} (hb : Blk w g t cs) : (byteOf ⟨g, o, none⟩).run P w = .ok 0 w := by
  unfold Blk at hb
  have h1 : w.shape? g = some (t, cs.size) := by simp [World.shape?, hb]
  have hp : (program).run P w = .ok P w := rfl
  have hv : (noView ⟨g, o, none⟩).run P w = .ok () w := by simp [noView, viewAt, h1]
  simp [byteOf, hp, hv, h1, hz.z]
section
variable {P : Program} {C : Ctx} {E : Slots} {S : List Ent} {ty g t s f : Nat} {x : Operand} {cs : Array Value}
theorem QS_fieldZ [hs : FieldZ P s f] [hz : CellsZ P s] (hx : evo E x = some (.pointer (some ⟨g, 0, none⟩))) (hm : entBlk g s cs ∈ S) : QS P C E S (.fieldAddr s x f) ty (.pointer (some ⟨g, 0, none⟩)) :=
  QS.of (fun a w ha hw => by
    obtain ⟨fs, fd, h1, h2, h3, h4, h5⟩ := hs.run
    have hb : Blk w g s cs := (hw.holds _ hm).1
    have := run_byteOf0 (P := P) (o := 0) hb
    simp [execOp, ha.evo hx, Instr.fieldAt, run_underlying h1, h2, Instr.sureAddr, fieldPlace, h5 w, partAt, this, h3, h4])
theorem Lds.zero [hs : AggOf P s 0] (ad : Addr) : Lds P C S s ad (.agg #[]) := fun w hw => by
  have : (loadCells ad 0).run P w = .ok #[] w := rfl
  simp [loadVar, hs.agg w, hs.size w, this]
end
end Go.Proofs.Ytkhdihieepfcpaa
