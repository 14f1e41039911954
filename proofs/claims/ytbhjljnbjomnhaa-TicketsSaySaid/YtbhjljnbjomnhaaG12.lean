/- Lemmas for the walks (Ifc, Tk2, R, Row). No condition. -/
import Derived.Test.YtbhjljnbjomnhaaG09
import Derived.Test.YtbhjljnbjomnhaaG10
set_option linter.unusedSimpArgs false
set_option linter.unusedVariables false
set_option linter.unusedSectionVars false
set_option linter.unnecessarySimpa false
namespace Go.Proofs.Ytbhjljnbjomnhaa
open Go.RowKit

/-- a type that is no interface -/
class PlainT (P : Program) (t : Nat) : Prop where
  make : ∀ (v : Value) (w : World), (Instr.makeInterface t v).run P w = .ok (.iface t v) w
/-- an interface type -/
class IfaceT (P : Program) (t : Nat) : Prop where
  und : ∃ ms, P.underlying t = some (.interface ms)
theorem plainT_of {P : Program} {t : Nat} {fs : Array Field} (h : P.underlying t = some (.struct fs)) : PlainT P t := ⟨fun v w => by simp [Instr.makeInterface, run_underlying h]⟩
/-- a method of a type, called by value -/
class MethodOf (P : Program) (t : Nat) (name : String) (v : Value) (f : outParam Nat) (r : outParam Value) : Prop where
  run : ∀ w, (method (P.types.size + Made.depth) t v name).run P w = .ok (f, r) w
section
variable {P : Program} {C : Ctx} {Q : Exit → Act → World → Prop} {E : Slots} {S S1 R S2 : List Ent}
variable {d ty ty2 ty3 t : Nat} {ps : String} {af : Array Edge} {g0 : Option (Nat × Bool)} {f : Nat} {x y : Operand} {v r : Value}
theorem QS_makeInterface [hs : PlainT P t] (hx : evo E x = some v) : QS P C E S (.makeInterface t x) ty (.iface t v) :=
  QS.of (fun a w ha _ => by
    have := hs.make v w
    simp [execOp, ha.evo hx, this])
theorem run_equal_ifaceNil [h : IfaceT P t] (u : Nat) (v : Value) (w : World) : (Op.equal t (.iface u v) .nilIface).run P w = .ok false w := by
  obtain ⟨ms, h⟩ := h.und
  unfold Op.equal Op.maxDepth Op.equalIn
  simp [run_underlying h]
theorem run_equal_nilNil [h : IfaceT P t] (w : World) : (Op.equal t .nilIface .nilIface).run P w = .ok true w := by
  obtain ⟨ms, h⟩ := h.und
  unfold Op.equal Op.maxDepth Op.equalIn
  simp [run_underlying h]
theorem QS_ifaceSome [IfaceT P t] {u : Nat} (hx : evo E x = some (.iface u v)) (hy : evo E y = some .nilIface) : QS P C E S (.binOp .eql t x y ty3) ty (.bool false) :=
  QS.of (fun a w ha _ => by
    unfold execOp
    simp only [ha.evo hx, ha.evo hy]
    have hg : (eqGuard .eql t x y (.iface u v) .nilIface).run P w = .ok () w := rfl
    have hb : (binOp .eql t (.iface u v) .nilIface).run P w = .ok (.bool false) w := by
      unfold binOp; simp [run_equal_ifaceNil]
    simp only [Sem.run_bind, hg, Result.andThen_ok, hb]; rfl)
theorem QS_ifaceNil [IfaceT P t] {z : Value} (hx : evo E x = some .nilIface) (hz : z = .nilIface) : QS P C E S (.binOp .eql t x (.const z) ty3) ty (.bool true) :=
  QS.of (fun a w ha _ => by
    subst hz
    unfold execOp
    simp only [ha.evo hx]
    have hg : (eqGuard .eql t x (.const .nilIface) .nilIface .nilIface).run P w = .ok () w := by
      unfold eqGuard
      cases x <;> rfl
    have hb : (binOp .eql t .nilIface .nilIface).run P w = .ok (.bool true) w := by
      unfold binOp; simp [run_equal_nilNil]
    simp only [Act.eval, Sem.run_bind, hg, Result.andThen_ok, hb]; rfl)
/-- a method taken as a value: the look at its receiver -/
theorem QS_nilCheckM {u : Nat} {name : String} {cs : Array Value} (hx : evo E x = some (.func (.method name) #[.iface u v] cs)) (hm : ∀ w, (nilAhead (P.types.size + Made.depth) u v name).run P w = .ok (some false) w) : QS P C E S (.nilCheck x) ty (.func (.method name) #[.iface u v] cs) :=
  QS.of (fun a w ha _ => by
    have hp : (program).run P w = .ok P w := rfl
    simp [execOp, ha.evo hx, hp, hm w])
theorem run_invoke [hf : IsFn P f] {u : Nat} {name : String} {xs : List Operand} {vs : List Value} {ats : Array TypeId} (hv : evo E x = some (.iface u v)) (hm : MethodOf P u name v f r) (hx : evs E xs = some vs) {a : Act} {w : World} (ha : Env C.n a E) :
    (execOp a.eval ⟨some d, .call ⟨.invoke x name, xs.toArray, ats⟩, ty, ps, af, g0⟩).run P w = .ok (.enter f (r :: vs).toArray) w := by
  have h1 := ha.evo hv
  have h2 := evs_toArray ha hx
  have hp : (program).run P w = .ok P w := rfl
  have h3 := hf.run (r :: vs).toArray w
  have e1 : (#[Value.iface u v] ++ vs.toArray).extract 1 (#[Value.iface u v] ++ vs.toArray).size = vs.toArray := by simp
  have e2 : (#[Value.iface u v] ++ vs.toArray)[0]? = some (.iface u v) := by simp
  have e3 : #[r] ++ vs.toArray = (r :: vs).toArray := by simp
  simp only [execOp, resolve, h1, h2, Sem.run_bind, Sem.run_pure, Result.andThen_ok, invoke, e2, e1, callMethod, hp, hm.run w, e3, h3]
/-- a call of a method that leaves all alone -/
theorem ES_invokeV [hf : IsFn P f] {u : Nat} {name : String} {xs : List Operand} {vs : List Value} {ats : Array TypeId} {z : Value} (hv : evo E x = some (.iface u v)) (hm : MethodOf P u name v f r) (hx : evs E xs = some vs)
    (hc : ∀ w, Mem C w S → Calls P f (r :: vs).toArray w fun e w' => e = .returned z ∧ Below w.heap.size w w') (hd : Nat.ble (d + 1) C.n = true) :
    ES P C E S ⟨some d, .call ⟨.invoke x name, xs.toArray, ats⟩, ty, ps, af, g0⟩ (fun E' S' => E' = (d, z) :: E ∧ S' = S) := by
  refine (ES_enter (fun u T => u = z ∧ T = S) (fun a w ha => run_invoke hv hm hx ha) (fun w hw => (hc w hw).mono fun e w' ⟨he, hb⟩ => ⟨z, _, he, hw.below hb, rfl, rfl⟩) hd).weak (by rintro _ _ ⟨_, ⟨rfl, rfl⟩, rfl⟩; exact ⟨rfl, rfl⟩)
/-- a call of a method that turns what it is handed -/
theorem ES_invokeX [hf : IsFn P f] {X : Type} {u : Nat} {name : String} {xs : List Operand} {vs : List Value} {ats : Array TypeId} (z : X → Value) (S1' : X → List Ent) {S2 : X → List Ent} (hv : evo E x = some (.iface u v)) (hm : MethodOf P u name v f r) (hx : evs E xs = some vs)
    (hS : Pull S S1 R) (hA : ∀ x, AppL (S1' x) R (S2 x))
    (hc : ∀ w, Mem C w (S1 ++ R) → Calls P f (r :: vs).toArray w fun e w' => ∃ x, e = .returned (z x) ∧ Mem ⟨0, blks S1, w⟩ w' (S1' x)) (hd : Nat.ble (d + 1) C.n = true) :
    ES P C E S ⟨some d, .call ⟨.invoke x name, xs.toArray, ats⟩, ty, ps, af, g0⟩ (fun E' S' => ∃ x, E' = (d, z x) :: E ∧ S' = S2 x) :=
  (ES_enter (fun u T => ∃ x, u = z x ∧ T = S2 x) (fun a w ha => run_invoke hv hm hx ha) (fun w hw => (hc w (hw.pull hS)).mono fun e w' ⟨x, he, hb⟩ => ⟨z x, _, he, (hw.pull hS).frame hb, x, rfl, (hA x).eq⟩) hd).weak
    (by rintro _ _ ⟨_, ⟨x, rfl, rfl⟩, rfl⟩; exact ⟨x, rfl, rfl⟩)
/-- a call that turns what it is handed, to something of some shape -/
theorem ES_callX [hf : IsFn P f] {X : Type} {xs : List Operand} {vs : List Value} {ats : Array TypeId} (z : X → Value) (S1' : X → List Ent) {S2 : X → List Ent} (hx : evs E xs = some vs)
    (hS : Pull S S1 R) (hA : ∀ x, AppL (S1' x) R (S2 x))
    (hc : ∀ w, Mem C w (S1 ++ R) → Calls P f vs.toArray w fun e w' => ∃ x, e = .returned (z x) ∧ Mem ⟨0, blks S1, w⟩ w' (S1' x)) (hd : Nat.ble (d + 1) C.n = true) :
    ES P C E S ⟨some d, .call ⟨.value (.func f), xs.toArray, ats⟩, ty, ps, af, g0⟩ (fun E' S' => ∃ x, E' = (d, z x) :: E ∧ S' = S2 x) :=
  (ES_call (fun u T => ∃ x, u = z x ∧ T = S2 x) hx (fun w hw => (hc w (hw.pull hS)).mono fun e w' ⟨x, he, hb⟩ => ⟨z x, _, he, (hw.pull hS).frame hb, x, rfl, (hA x).eq⟩) hd).weak
    (by rintro _ _ ⟨_, ⟨x, rfl, rfl⟩, rfl⟩; exact ⟨x, rfl, rfl⟩)
end
/-! Structs without a cell -/
/-- a field without a cell, of a struct without one -/
class FieldZ (P : Program) (s f : Nat) : Prop where
  run : ∃ (fs : Array Field) (fd : Field), P.underlying s = some (.struct fs) ∧ fs[f]? = some fd ∧ fd.offset = 0 ∧ fd.byteOffset = 0 ∧ ∀ w, (sizeOf fd.type).run P w = .ok 0 w
class CellsZ (P : Program) (t : Nat) : Prop where
  z : P.cellsOf t = 0
theorem run_byteOf0 {P : Program} {g t o : Nat} [hz : CellsZ P t] {w : World} {cs : Array Value} (hb : Blk w g t cs) : (byteOf ⟨g, o, none⟩).run P w = .ok 0 w := by
  unfold Blk at hb
  have h1 : w.shape? g = some (t, cs.size) := by simp [World.shape?, hb]
  have hp : (program).run P w = .ok P w := rfl
  have hv : (noView ⟨g, o, none⟩).run P w = .ok () w := by simp [noView, viewAt, h1]
  simp [byteOf, hp, hv, h1, hz.z]
section
variable {P : Program} {C : Ctx} {E : Slots} {S : List Ent} {ty g t s f : Nat} {x : Operand} {cs : Array Value}
theorem QS_fieldZ [hs : FieldZ P s f] [hz : CellsZ P s] (hx : evo E x = some (.pointer (some ⟨g, 0, none⟩))) (hm : entBlk g s cs ∈ S) : QS P C E S (.fieldAddr s x f) ty (.pointer (some ⟨g, 0, none⟩)) :=
  QS.of (fun a w ha hw => by
    obtain ⟨fs, fd, h1, h2, h3, h4, h5⟩ := hs.run
    have hb : Blk w g s cs := (hw.holds _ hm).1
    have := run_byteOf0 (P := P) (o := 0) hb
    simp [execOp, ha.evo hx, Instr.fieldAt, run_underlying h1, h2, Instr.sureAddr, fieldPlace, h5 w, partAt, this, h3, h4])
theorem Lds.zero [hs : AggOf P s 0] (ad : Addr) : Lds P C S s ad (.agg #[]) := fun w hw => by
  have : (loadCells ad 0).run P w = .ok #[] w := rfl
  simp [loadVar, hs.agg w, hs.size w, this]
end
end Go.Proofs.Ytbhjljnbjomnhaa

namespace Go.Proofs.Ytbhjljnbjomnhaa
open Go.RowKit

section
variable {P : Program} {C : Ctx} {E : Slots} {S S' : List Ent} {ty g t k e : Nat} {x y : Operand} {n : Int} {H : List (Int × Bool)}
theorem QS_lookBX [hm : MapOf P t k e] [hz : ZeroOf P e (.bool false)] {b : Bool} (hl : (lookM H n).getD false = b) (hx : evo E x = some (.map (some g))) (hy : evo E y = some (.int .i64 n)) (hD : entMap boolV g H ∈ S) : QS P C E S (.lookup t x y false) ty (.bool b) := by
  rw [← hl]; exact QS_lookB (hm := hm) (hz := hz) hx hy hD
end
/-- where a log's own things lie -/
structure LG where
  g : Nat
  A : Option Addr
  ca : Nat
  P : Option Addr
  cp : Nat
  M : Option Addr
  cm : Nat
def logS (cs : List Cl) (L : LG) (p m : List Nat) : List Ent :=
  [entBlk L.g 126 #[.slice L.A cs.length L.ca, .slice L.P p.length L.cp, .slice L.M m.length L.cm], entOwn Cl.enc 7 43 L.A L.ca cs, entOwn natEnc 1 3 L.P L.cp p, entOwn natEnc 1 3 L.M L.cm m]
section
variable (B0 : Option Addr) (d0 : Nat) (l : List Ev) (w : World) (hl : l.length ≤ 9223372036854775807) (hA : RdEv w B0 l)
include hl hA
set_option maxRecDepth 100000 in
set_option maxHeartbeats 4000000 in
theorem tkRead_err (h : ¬ (callsR [5] l).2.2 = 0) : Calls Try.prog 58 #[.slice B0 l.length d0] w fun e w' => e = .returned (.tuple #[.pointer none, .int .i64 (callsR [5] l).2.2]) ∧ Below w.heap.size w w' := by
  have h1 := fun T w h1 h2 => callsCode_any T B0 1 d0 [5] l w (by decide) hl h1 h2
  obtain ⟨cs, y, z, hcr⟩ : ∃ cs y z, callsR [5] l = (cs, y, z) := ⟨_, _, _, rfl⟩
  rw [hcr] at h1 h ⊢
  dsimp only at h1 h ⊢
  clear hcr
  refine calls_T (S := []) [] Try.func58 rfl Try.ntmps58 (by simp) (Mem.nil _) ?_
  repeat' (first
    | ((with_reducible refine TL_mem (S' := [entOwn intEnc 1 3 (some ⟨g, 0, none⟩) 1 [5]]) (fun w hw => Mem.asOwn (enc := intEnc) (M := 1) [5] (Upd.here _ _ _) rfl (fun _ => rfl) (by decide) hw) ?_))
    | ((first | with_reducible (first | apply TL_q | apply TD_q0 | apply TD_q1 | apply TD_q2 | apply TD_q3) | ((with_reducible (first | apply TD_q0y | apply TD_q1y)); exact rfl; exact rfl; (with_reducible exact rfl))); (first | ((with_reducible apply QS_lookBX hlook); exact rfl; exact rfl; (first | ((repeat (first | with_reducible exact List.mem_cons_self | with_reducible apply List.mem_cons_of_mem)); done) | (repeat (first | exact List.Mem.head _ | apply List.Mem.tail)))) | exact QS.auto); exact rfl) | (refine GO ?_) | (refine GOE ?_; (first | (rintro _ _ ⟨rfl, rfl⟩) | (rintro _ _ ⟨g, rfl, rfl⟩) | (rintro _ _ ⟨A', c', rfl, rfl⟩))) | ((refine GO2 ?_ ?_) <;> intro h <;> (try (repeat (first | with_reducible (replace h := of_decide_eq_true h) | with_reducible (replace h := of_decide_eq_false h) | with_reducible (replace h := bnt h) | with_reducible (replace h := bnf h) | with_reducible (replace h := Int.not_lt.mp h) | with_reducible (replace h := Int.not_le.mp h) | with_reducible (replace h := band_dec h) | with_reducible (replace h := band_decF h) | with_reducible (replace h := bor_dec h) | with_reducible (replace h := bor_decF h)))) <;> (try (exfalso; first | contradiction | omega))) | ((with_reducible (first | apply TD_e2z | apply TD_e3z | apply TL_e | apply TD_e2 | apply TD_e3)); ((with_reducible apply ES_callOwn (f := 98)); exact rfl; (intro w hw; exact h1 (some ⟨g, 0, none⟩) w (hw.ownRd (by first | ((repeat (first | with_reducible exact List.mem_cons_self | with_reducible apply List.mem_cons_of_mem)); done) | (repeat (first | exact List.Mem.head _ | apply List.Mem.tail))) (fun _ => rfl)) (hw.rd rfl hA)); exact rfl); (first | exact rfl | exact ⟨rfl, rfl, rfl⟩); (rintro _ _ ⟨A1, c1, rfl, rfl⟩); (try refine ⟨SUB, ?_⟩)) | fail)
  (refine At_ret Try.results58 rfl (fun w' hw => ?_))
  exact ⟨rfl, hw.below0 rfl⟩
set_option maxRecDepth 100000 in
set_option maxHeartbeats 4000000 in
theorem tkRead_ok (h : (callsR [5] l).2.2 = 0) : Calls Try.prog 58 #[.slice B0 l.length d0] w fun e w' => ∃ L : LG, e = .returned (.tuple #[.pointer (some ⟨L.g, 0, none⟩), .int .i64 0]) ∧ Mem ⟨0, [], w⟩ w' (logS (callsR [5] l).1 L (pendT (callsR [5] l).1) (missT (callsR [5] l).1)) := by
  have hok := tkOk_of h
  have h1 := fun T w h1 h2 => callsCode_any T B0 1 d0 [5] l w (by decide) hl h1 h2
  obtain ⟨cs, y, z, hcr⟩ : ∃ cs y z, callsR [5] l = (cs, y, z) := ⟨_, _, _, rfl⟩
  rw [hcr] at h1 h hok ⊢
  dsimp only at h1 h hok ⊢
  subst h
  clear hcr
  have hfew := hok.few
  have hm0 := mostK_bd hok
  refine calls_T (S := []) [] Try.func58 rfl Try.ntmps58 (by simp) (Mem.nil _) ?_
  repeat' (first
    | ((with_reducible refine TL_mem (S' := [entOwn intEnc 1 3 (some ⟨g, 0, none⟩) 1 [5]]) (fun w hw => Mem.asOwn (enc := intEnc) (M := 1) [5] (Upd.here _ _ _) rfl (fun _ => rfl) (by decide) hw) ?_))
    | ((with_reducible (first | apply TD_e2z | apply TD_e3z | apply TL_e | apply TD_e2 | apply TD_e3)); ((with_reducible apply ES_makeMapB); exact rfl); (first | exact rfl | exact ⟨rfl, rfl, rfl⟩); (rintro _ _ ⟨gm, rfl, rfl⟩); (try refine ⟨SUB, ?_⟩))
    | ((first | with_reducible (first | apply TL_q | apply TD_q0 | apply TD_q1 | apply TD_q2 | apply TD_q3) | ((with_reducible (first | apply TD_q0y | apply TD_q1y)); exact rfl; exact rfl; (with_reducible exact rfl))); (first | ((with_reducible apply QS_lookBX hlook); exact rfl; exact rfl; (first | ((repeat (first | with_reducible exact List.mem_cons_self | with_reducible apply List.mem_cons_of_mem)); done) | (repeat (first | exact List.Mem.head _ | apply List.Mem.tail)))) | exact QS.auto); exact rfl) | (refine GO ?_) | (refine GOE ?_; (first | (rintro _ _ ⟨rfl, rfl⟩) | (rintro _ _ ⟨g, rfl, rfl⟩) | (rintro _ _ ⟨A', c', rfl, rfl⟩))) | ((refine GO2 ?_ ?_) <;> intro h <;> (try (repeat (first | with_reducible (replace h := of_decide_eq_true h) | with_reducible (replace h := of_decide_eq_false h) | with_reducible (replace h := bnt h) | with_reducible (replace h := bnf h) | with_reducible (replace h := Int.not_lt.mp h) | with_reducible (replace h := Int.not_le.mp h) | with_reducible (replace h := band_dec h) | with_reducible (replace h := band_decF h) | with_reducible (replace h := bor_dec h) | with_reducible (replace h := bor_decF h)))) <;> (try (exfalso; first | contradiction | omega))) | ((with_reducible (first | apply TD_e2z | apply TD_e3z | apply TL_e | apply TD_e2 | apply TD_e3)); ((with_reducible apply ES_callOwn (f := 98)); exact rfl; (intro w hw; exact h1 (some ⟨g, 0, none⟩) w (hw.ownRd (by first | ((repeat (first | with_reducible exact List.mem_cons_self | with_reducible apply List.mem_cons_of_mem)); done) | (repeat (first | exact List.Mem.head _ | apply List.Mem.tail))) (fun _ => rfl)) (hw.rd rfl hA)); exact rfl); (first | exact rfl | exact ⟨rfl, rfl, rfl⟩); (rintro _ _ ⟨A1, c1, rfl, rfl⟩); (try refine ⟨SUB, ?_⟩)) | fail)
  obtain ⟨gl, rfl⟩ : ∃ x, x = g := ⟨_, rfl⟩
  refine T_loop (X := Nat × Option Addr × Nat) (fun x => [(29, .int .i64 (x.1 : Nat)), (28, .int .i64 cs.length), (27, .slice A1 cs.length c1), (7, .pointer (some ⟨gl, 0, none⟩)), (8, .int .i64 (mostK cs x.1)), (9, .map (some gm))])
    (fun x => [entMap boolV gm (hasM cs x.1), entBlk gl 126 #[.slice A1 cs.length c1, .slice x.2.1 (pendK cs x.1).length x.2.2, .slice none 0 0], entOwn Cl.enc 7 43 A1 c1 cs, entOwn natEnc 1 3 x.2.1 x.2.2 (pendK cs x.1)])
    (fun x => x.1 ≤ cs.length) (fun x => cs.length - x.1) (0, none, 0) (by (try dsimp only); omega) (by (repeat (first | exact SubE.nil _ | refine SubE.cons rfl ?_))) (fun w' hw => by
      show Mem _ w' [entMap boolV gm [], entBlk gl 126 #[.slice A1 cs.length c1, .slice none 0 0, .slice none 0 0], entOwn Cl.enc 7 43 A1 c1 cs, entOwn natEnc 1 3 none 0 ([] : List Nat)]
      exact (hw.nilOwn natEnc 1 3).sel (by (repeat (first | exact Sel.nil _ | (apply Sel.cons; (repeat (first | with_reducible exact Pick.here _ _ | with_reducible apply Pick.there))))))) ?_
  rintro ⟨k, PA, pc⟩ hk
  dsimp only at hk ⊢
  have hpl := pendK_len cs k
  have hps := pendK_succ cs k
  have hbd := hm0 k hk
  by_cases hkl : k < cs.length
  · have hck := clK_eq hkl
    have hms : mostK cs (k + 1) = if (clK cs k).to = -1 then mostK cs k else max (mostK cs k) (clK cs k).res := rfl
    have hhs : hasM cs (k + 1) = if (clK cs k).to = -1 then hasM cs k else putM (hasM cs k) (clK cs k).res true := rfl
    rw [hck] at hps hms hhs
    refine T_own (enc := Cl.enc) (ls := cs) (by first | ((repeat (first | with_reducible exact List.mem_cons_self | with_reducible apply List.mem_cons_of_mem)); done) | (repeat (first | exact List.Mem.head _ | apply List.Mem.tail))) (by omega) ?_
    rintro gC rfl
    generalize pendK cs k = p at *
    generalize hasM cs k = H at *
    generalize mostK cs k = m at *
    by_cases ht : cs[k].to = -1
    · rw [if_pos ht] at hps hms hhs
      repeat' (first | ((first | with_reducible (first | apply TL_q | apply TD_q0 | apply TD_q1 | apply TD_q2 | apply TD_q3) | ((with_reducible (first | apply TD_q0y | apply TD_q1y)); exact rfl; exact rfl; (with_reducible exact rfl))); (first | ((with_reducible apply QS_lookBX hlook); exact rfl; exact rfl; (first | ((repeat (first | with_reducible exact List.mem_cons_self | with_reducible apply List.mem_cons_of_mem)); done) | (repeat (first | exact List.Mem.head _ | apply List.Mem.tail)))) | exact QS.auto); exact rfl) | (refine GO ?_) | (refine GOE ?_; (first | (rintro _ _ ⟨rfl, rfl⟩) | (rintro _ _ ⟨g, rfl, rfl⟩) | (rintro _ _ ⟨A', c', rfl, rfl⟩))) | ((refine GO2 ?_ ?_) <;> intro h <;> (try (repeat (first | with_reducible (replace h := of_decide_eq_true h) | with_reducible (replace h := of_decide_eq_false h) | with_reducible (replace h := bnt h) | with_reducible (replace h := bnf h) | with_reducible (replace h := Int.not_lt.mp h) | with_reducible (replace h := Int.not_le.mp h) | with_reducible (replace h := band_dec h) | with_reducible (replace h := band_decF h) | with_reducible (replace h := bor_dec h) | with_reducible (replace h := bor_decF h)))) <;> (try (exfalso; first | contradiction | omega))) | ((with_reducible (first | apply TD_e2z | apply TD_e3z | apply TL_e | apply TD_e2 | apply TD_e3)); ((with_reducible apply ES_append1 (enc := natEnc) (xx := k)); exact rfl; exact rfl; (repeat (first | with_reducible exact List.mem_cons_self | with_reducible apply List.mem_cons_of_mem)); exact rfl; exact fun _ => rfl; exact fun _ => rfl; (intro A' c'; first | ((repeat (first | with_reducible exact Upd.here _ _ _ | with_reducible apply Upd.there)); done) | (repeat (first | exact Upd.here _ _ _ | apply Upd.there))); (omega); decide; exact rfl); (first | exact rfl | exact ⟨rfl, rfl, rfl⟩); (rintro _ _ ⟨A', c', rfl, rfl⟩); (try refine ⟨SUB, ?_⟩)) | fail)
      apply At_rounds (k + 1, A', c')
      case hE => (try dsimp only); rw [hms]; (repeat (first | exact SubE.nil _ | refine SubE.cons rfl ?_))
      case hS => (try dsimp only); rw [hps, hhs]; exact fun w' hw => hw.sel (by (repeat (first | exact Sel.nil _ | (apply Sel.cons; (repeat (first | with_reducible exact Pick.here _ _ | with_reducible apply Pick.there))))))
      case hμ => (try dsimp only); omega
      case hp => (try dsimp only); omega
    · rw [if_neg ht] at hps hms hhs
      repeat' (first | ((first | with_reducible (first | apply TL_q | apply TD_q0 | apply TD_q1 | apply TD_q2 | apply TD_q3) | ((with_reducible (first | apply TD_q0y | apply TD_q1y)); exact rfl; exact rfl; (with_reducible exact rfl))); (first | ((with_reducible apply QS_lookBX hlook); exact rfl; exact rfl; (first | ((repeat (first | with_reducible exact List.mem_cons_self | with_reducible apply List.mem_cons_of_mem)); done) | (repeat (first | exact List.Mem.head _ | apply List.Mem.tail)))) | exact QS.auto); exact rfl) | (refine GO ?_) | (refine GOE ?_; (first | (rintro _ _ ⟨rfl, rfl⟩) | (rintro _ _ ⟨g, rfl, rfl⟩) | (rintro _ _ ⟨A', c', rfl, rfl⟩))) | ((refine GO2 ?_ ?_) <;> intro h <;> (try (repeat (first | with_reducible (replace h := of_decide_eq_true h) | with_reducible (replace h := of_decide_eq_false h) | with_reducible (replace h := bnt h) | with_reducible (replace h := bnf h) | with_reducible (replace h := Int.not_lt.mp h) | with_reducible (replace h := Int.not_le.mp h) | with_reducible (replace h := band_dec h) | with_reducible (replace h := band_decF h) | with_reducible (replace h := bor_dec h) | with_reducible (replace h := bor_decF h)))) <;> (try (exfalso; first | contradiction | omega))) | fail)
      apply At_rounds (k + 1, PA, pc)
      case hE => (try dsimp only); rw [hms]; (repeat (first | exact SubE.nil _ | refine SubE.cons rfl ?_))
      case hS => (try dsimp only); rw [hps, hhs]; exact fun w' hw => hw.sel (by (repeat (first | exact Sel.nil _ | (apply Sel.cons; (repeat (first | with_reducible exact Pick.here _ _ | with_reducible apply Pick.there))))))
      case hμ => (try dsimp only); omega
      case hp => (try dsimp only); omega
  · obtain rfl : k = cs.length := by omega
    have hnum : ((numT cs : Nat) : Int) = mostK cs cs.length + 1 := by unfold numT; omega
    have hlk := fun n => hasM_look cs n cs.length
    rw [show pendK cs cs.length = pendT cs from rfl]
    have hpl : (pendT cs).length ≤ cs.length := hpl
    generalize hasM cs cs.length = H at *
    generalize mostK cs cs.length = m at *
    repeat' (first | ((first | with_reducible (first | apply TL_q | apply TD_q0 | apply TD_q1 | apply TD_q2 | apply TD_q3) | ((with_reducible (first | apply TD_q0y | apply TD_q1y)); exact rfl; exact rfl; (with_reducible exact rfl))); (first | ((with_reducible apply QS_lookBX hlook); exact rfl; exact rfl; (first | ((repeat (first | with_reducible exact List.mem_cons_self | with_reducible apply List.mem_cons_of_mem)); done) | (repeat (first | exact List.Mem.head _ | apply List.Mem.tail)))) | exact QS.auto); exact rfl) | (refine GO ?_) | (refine GOE ?_; (first | (rintro _ _ ⟨rfl, rfl⟩) | (rintro _ _ ⟨g, rfl, rfl⟩) | (rintro _ _ ⟨A', c', rfl, rfl⟩))) | ((refine GO2 ?_ ?_) <;> intro h <;> (try (repeat (first | with_reducible (replace h := of_decide_eq_true h) | with_reducible (replace h := of_decide_eq_false h) | with_reducible (replace h := bnt h) | with_reducible (replace h := bnf h) | with_reducible (replace h := Int.not_lt.mp h) | with_reducible (replace h := Int.not_le.mp h) | with_reducible (replace h := band_dec h) | with_reducible (replace h := band_decF h) | with_reducible (replace h := bor_dec h) | with_reducible (replace h := bor_decF h)))) <;> (try (exfalso; first | contradiction | omega))) | fail)
    refine T_loop (X := Nat × Option Addr × Nat) (fun x => [(57, .int .i64 (x.1 : Nat)), (56, .int .i64 (m + 1)), (7, .pointer (some ⟨gl, 0, none⟩)), (9, .map (some gm))])
      (fun x => [entMap boolV gm H, entBlk gl 126 #[.slice A1 cs.length c1, .slice PA (pendT cs).length pc, .slice x.2.1 (missK cs x.1).length x.2.2], entOwn Cl.enc 7 43 A1 c1 cs, entOwn natEnc 1 3 PA pc (pendT cs), entOwn natEnc 1 3 x.2.1 x.2.2 (missK cs x.1)])
      (fun x => x.1 ≤ numT cs) (fun x => numT cs - x.1) (0, none, 0) (by (try dsimp only); omega) (by (repeat (first | exact SubE.nil _ | refine SubE.cons rfl ?_))) (fun w' hw => by
        show Mem _ w' [entMap boolV gm H, entBlk gl 126 #[.slice A1 cs.length c1, .slice PA (pendT cs).length pc, .slice none 0 0], entOwn Cl.enc 7 43 A1 c1 cs, entOwn natEnc 1 3 PA pc (pendT cs), entOwn natEnc 1 3 none 0 ([] : List Nat)]
        exact (hw.nilOwn natEnc 1 3).sel (by (repeat (first | exact Sel.nil _ | (apply Sel.cons; (repeat (first | with_reducible exact Pick.here _ _ | with_reducible apply Pick.there))))))) ?_
    rintro ⟨n, MA, mc⟩ hn
    dsimp only at hn ⊢
    have hml := missK_len cs n
    have hmsu := missK_succ cs n
    by_cases hnl : n < numT cs
    · have hlook := hlk (n : Int)
      rw [show hasK cs (n : Int) cs.length = hasT cs n from rfl] at hlook
      generalize missK cs n = ml at *
      cases hb : hasT cs n with
      | true =>
        rw [hb] at hlook hmsu
        rw [if_pos rfl] at hmsu
        repeat' (first | ((first | with_reducible (first | apply TL_q | apply TD_q0 | apply TD_q1 | apply TD_q2 | apply TD_q3) | ((with_reducible (first | apply TD_q0y | apply TD_q1y)); exact rfl; exact rfl; (with_reducible exact rfl))); (first | ((with_reducible apply QS_lookBX hlook); exact rfl; exact rfl; (first | ((repeat (first | with_reducible exact List.mem_cons_self | with_reducible apply List.mem_cons_of_mem)); done) | (repeat (first | exact List.Mem.head _ | apply List.Mem.tail)))) | exact QS.auto); exact rfl) | (refine GO ?_) | (refine GOE ?_; (first | (rintro _ _ ⟨rfl, rfl⟩) | (rintro _ _ ⟨g, rfl, rfl⟩) | (rintro _ _ ⟨A', c', rfl, rfl⟩))) | ((refine GO2 ?_ ?_) <;> intro h <;> (try (repeat (first | with_reducible (replace h := of_decide_eq_true h) | with_reducible (replace h := of_decide_eq_false h) | with_reducible (replace h := bnt h) | with_reducible (replace h := bnf h) | with_reducible (replace h := Int.not_lt.mp h) | with_reducible (replace h := Int.not_le.mp h) | with_reducible (replace h := band_dec h) | with_reducible (replace h := band_decF h) | with_reducible (replace h := bor_dec h) | with_reducible (replace h := bor_decF h)))) <;> (try (exfalso; first | contradiction | omega))) | fail)
        apply At_rounds (n + 1, MA, mc)
        case hE => (try dsimp only); (repeat (first | exact SubE.nil _ | refine SubE.cons rfl ?_))
        case hS => (try dsimp only); rw [hmsu]; exact fun w' hw => hw.sel (by (repeat (first | exact Sel.nil _ | (apply Sel.cons; (repeat (first | with_reducible exact Pick.here _ _ | with_reducible apply Pick.there))))))
        case hμ => (try dsimp only); omega
        case hp => (try dsimp only); omega
      | false =>
        rw [hb] at hlook hmsu
        rw [if_neg (by decide)] at hmsu
        repeat' (first | ((first | with_reducible (first | apply TL_q | apply TD_q0 | apply TD_q1 | apply TD_q2 | apply TD_q3) | ((with_reducible (first | apply TD_q0y | apply TD_q1y)); exact rfl; exact rfl; (with_reducible exact rfl))); (first | ((with_reducible apply QS_lookBX hlook); exact rfl; exact rfl; (first | ((repeat (first | with_reducible exact List.mem_cons_self | with_reducible apply List.mem_cons_of_mem)); done) | (repeat (first | exact List.Mem.head _ | apply List.Mem.tail)))) | exact QS.auto); exact rfl) | (refine GO ?_) | (refine GOE ?_; (first | (rintro _ _ ⟨rfl, rfl⟩) | (rintro _ _ ⟨g, rfl, rfl⟩) | (rintro _ _ ⟨A', c', rfl, rfl⟩))) | ((refine GO2 ?_ ?_) <;> intro h <;> (try (repeat (first | with_reducible (replace h := of_decide_eq_true h) | with_reducible (replace h := of_decide_eq_false h) | with_reducible (replace h := bnt h) | with_reducible (replace h := bnf h) | with_reducible (replace h := Int.not_lt.mp h) | with_reducible (replace h := Int.not_le.mp h) | with_reducible (replace h := band_dec h) | with_reducible (replace h := band_decF h) | with_reducible (replace h := bor_dec h) | with_reducible (replace h := bor_decF h)))) <;> (try (exfalso; first | contradiction | omega))) | ((with_reducible (first | apply TD_e2z | apply TD_e3z | apply TL_e | apply TD_e2 | apply TD_e3)); ((with_reducible apply ES_append1 (enc := natEnc) (xx := n)); exact rfl; exact rfl; (repeat (first | with_reducible exact List.mem_cons_self | with_reducible apply List.mem_cons_of_mem)); exact rfl; exact fun _ => rfl; exact fun _ => rfl; (intro A' c'; first | ((repeat (first | with_reducible exact Upd.here _ _ _ | with_reducible apply Upd.there)); done) | (repeat (first | exact Upd.here _ _ _ | apply Upd.there))); (omega); decide; exact rfl); (first | exact rfl | exact ⟨rfl, rfl, rfl⟩); (rintro _ _ ⟨A', c', rfl, rfl⟩); (try refine ⟨SUB, ?_⟩)) | fail)
        apply At_rounds (n + 1, A', c')
        case hE => (try dsimp only); (repeat (first | exact SubE.nil _ | refine SubE.cons rfl ?_))
        case hS => (try dsimp only); rw [hmsu]; exact fun w' hw => hw.sel (by (repeat (first | exact Sel.nil _ | (apply Sel.cons; (repeat (first | with_reducible exact Pick.here _ _ | with_reducible apply Pick.there))))))
        case hμ => (try dsimp only); omega
        case hp => (try dsimp only); omega
    · obtain rfl : n = numT cs := by omega
      repeat' (first | ((first | with_reducible (first | apply TL_q | apply TD_q0 | apply TD_q1 | apply TD_q2 | apply TD_q3) | ((with_reducible (first | apply TD_q0y | apply TD_q1y)); exact rfl; exact rfl; (with_reducible exact rfl))); (first | ((with_reducible apply QS_lookBX hlook); exact rfl; exact rfl; (first | ((repeat (first | with_reducible exact List.mem_cons_self | with_reducible apply List.mem_cons_of_mem)); done) | (repeat (first | exact List.Mem.head _ | apply List.Mem.tail)))) | exact QS.auto); exact rfl) | (refine GO ?_) | (refine GOE ?_; (first | (rintro _ _ ⟨rfl, rfl⟩) | (rintro _ _ ⟨g, rfl, rfl⟩) | (rintro _ _ ⟨A', c', rfl, rfl⟩))) | ((refine GO2 ?_ ?_) <;> intro h <;> (try (repeat (first | with_reducible (replace h := of_decide_eq_true h) | with_reducible (replace h := of_decide_eq_false h) | with_reducible (replace h := bnt h) | with_reducible (replace h := bnf h) | with_reducible (replace h := Int.not_lt.mp h) | with_reducible (replace h := Int.not_le.mp h) | with_reducible (replace h := band_dec h) | with_reducible (replace h := band_decF h) | with_reducible (replace h := bor_dec h) | with_reducible (replace h := bor_decF h)))) <;> (try (exfalso; first | contradiction | omega))) | fail)
      (refine At_ret Try.results58 rfl (fun w' hw => ?_))
      refine ⟨⟨gl, A1, c1, PA, pc, MA, mc⟩, rfl, ?_⟩
      show Mem ⟨0, [], w⟩ _ [entBlk gl 126 #[.slice A1 cs.length c1, .slice PA (pendT cs).length pc, .slice MA (missK cs (numT cs)).length mc], entOwn Cl.enc 7 43 A1 c1 cs, entOwn natEnc 1 3 PA pc (pendT cs), entOwn natEnc 1 3 MA mc (missK cs (numT cs))]
      exact (hw.anyN 0).sel (by (repeat (first | exact Sel.nil _ | (apply Sel.cons; (repeat (first | with_reducible exact Pick.here _ _ | with_reducible apply Pick.there))))))
end
end Go.Proofs.Ytbhjljnbjomnhaa

namespace Go.Proofs.Ytbhjljnbjomnhaa
open Go.RowKit

/-- a header: where a row lies -/
structure Hd where
  a : Option Addr
  n : Nat
  c : Nat
def Hd.v (h : Hd) : Value := .slice h.a h.n h.c
def hdEnc (h : Hd) : List Value := [.slice h.a h.n h.c]
inductive All2 {α β : Type} (R : α → β → Prop) : List α → List β → Prop
  | nil : All2 R [] []
  | cons {a : α} {b : β} {l : List α} {m : List β} (h : R a b) (t : All2 R l m) : All2 R (a :: l) (b :: m)
/-- the rows, each of its own -/
def Inner {α : Type} (enc : α → List Value) (M e : Nat) (w : World) (hs : List Hd) (rows : List (List α)) : Prop :=
  All2 (fun h l => h.n = l.length ∧ Own enc M e w 0 h.v l) hs rows ∧ hs.Pairwise fun h g => ∀ k, h.v.ownBlock = some k → g.v.ownBlock ≠ some k
theorem Own.same {α : Type} {enc : α → List Value} {M e : Nat} {w w' : World} {v : Value} {l : List α} (h : ∀ g, v.ownBlock = some g → w'.heap[g]? = w.heap[g]?) (hp : Own enc M e w 0 v l) : Own enc M e w' 0 v l := by
  refine ⟨hp.1, ?_⟩
  rcases hp.2 with hn | ⟨g, cap, cur, hv, hbb, hg, rest⟩
  · exact .inl hn
  · refine .inr ⟨g, cap, cur, hv, hbb, (h g ?_).trans hg, rest⟩
    rw [hv]; rfl
theorem forall2_mono {α β : Type} {R R' : α → β → Prop} : ∀ {l : List α} {m : List β}, All2 R l m → (∀ a ∈ l, ∀ b, R a b → R' a b) → All2 R' l m
  | _, _, .nil, _ => .nil
  | _, _, .cons h t, f => .cons (f _ List.mem_cons_self _ h) (forall2_mono t fun a ha b => f a (List.mem_cons_of_mem _ ha) b)
theorem forall2_append {α β : Type} {R : α → β → Prop} {a : α} {b : β} (h : R a b) : ∀ {l : List α} {m : List β}, All2 R l m → All2 R (l ++ [a]) (m ++ [b])
  | _, _, .nil => .cons h .nil
  | _, _, .cons h' t => .cons h' (forall2_append h t)
theorem forall2_len {α β : Type} {R : α → β → Prop} : ∀ {l : List α} {m : List β}, All2 R l m → l.length = m.length
  | _, _, .nil => rfl
  | _, _, .cons _ t => by simp [forall2_len t]
theorem forall2_at {α β : Type} {R : α → β → Prop} : ∀ {l : List α} {m : List β}, All2 R l m → ∀ i (h1 : i < l.length) (h2 : i < m.length), R l[i] m[i]
  | _, _, .nil, _, h, _ => by simp at h
  | _, _, .cons h' _, 0, _, _ => h'
  | _, _, .cons _ t, i + 1, h1, h2 => forall2_at t i (by simpa using h1) (by simpa using h2)
def entInner {α : Type} (enc : α → List Value) (M e : Nat) (hs : List Hd) (rows : List (List α)) : Ent :=
  ⟨fun k => ∃ h ∈ hs, h.v.ownBlock = some k, hs.filterMap fun h => h.v.ownBlock, fun k => by simp [List.mem_filterMap], fun w => Inner enc M e w hs rows, fun w w' h hp =>
    ⟨forall2_mono hp.1 fun a ha b hab => ⟨hab.1, hab.2.same fun g hg => h g ⟨a, ha, hg⟩⟩, hp.2⟩⟩
section
variable {C : Ctx} {w w' : World} {S S1 S' : List Ent} {α : Type} {enc : α → List Value} {M e : Nat} {hs : List Hd} {rows : List (List α)} {l : List α} {A : Option Addr} {c : Nat}
theorem Mem.nilInner (enc : α → List Value) (M e : Nat) (h : Mem C w S) : Mem C w (entInner enc M e [] [] :: S) :=
  h.fresh (e := entInner enc M e [] []) (Below.refl _ _) (fun g hg => by obtain ⟨a, ha, _⟩ := hg; simp at ha) ⟨.nil, .nil⟩
/-- a row more -/
theorem Mem.absorb (hp : Pick S (entOwn enc M e A c l) S1) (hu : Upd S1 (entInner enc M e hs rows) (entInner enc M e (hs ++ [⟨A, l.length, c⟩]) (rows ++ [l])) S') (hw : Mem C w S) : Mem C w S' := by
  have h1 := hw.pick hp
  obtain ⟨X, Y, rfl, rfl⟩ := hu.form
  have hap := List.pairwise_cons.1 h1.apart
  have hap2 := hap.2
  rw [List.pairwise_append, List.pairwise_cons] at hap2
  obtain ⟨hX, ⟨hY1, hY⟩, hXY⟩ := hap2
  have ho := h1.holds _ List.mem_cons_self
  have hin := h1.holds (entInner enc M e hs rows) (by simp)
  have hfar : ∀ k, (∃ h ∈ hs, h.v.ownBlock = some k) → (Value.slice A l.length c).ownBlock ≠ some k := fun k hk hk' => hap.1 (entInner enc M e hs rows) (by simp) k hk' hk
  have hhas : ∀ k, (entInner enc M e (hs ++ [⟨A, l.length, c⟩]) (rows ++ [l])).has k → (entInner enc M e hs rows).has k ∨ (entOwn enc M e A c l).has k := by
    rintro k ⟨h, hm, hk⟩
    rcases List.mem_append.1 hm with hm | hm
    · exact .inl ⟨h, hm, hk⟩
    · obtain rfl : h = ⟨A, l.length, c⟩ := by simpa using hm
      exact .inr hk
  refine ⟨h1.keeps, fun f hf => ?_, ?_⟩
  · rcases List.mem_append.1 hf with hf | hf
    · exact h1.holds f (by simp [hf])
    · rcases List.mem_cons.1 hf with rfl | hf
      · refine ⟨⟨forall2_append ⟨rfl, ho.1⟩ hin.1.1, ?_⟩, fun k hk => ?_⟩
        · rw [List.pairwise_append]
          refine ⟨hin.1.2, List.pairwise_singleton _ _, fun h hh g hg k hk => ?_⟩
          obtain rfl : g = ⟨A, l.length, c⟩ := by simpa using hg
          exact hfar k ⟨h, hh, hk⟩
        · rcases hhas k hk with h | h
          · exact hin.2 k h
          · exact ho.2 k h
      · exact h1.holds f (by simp [hf])
  · rw [List.pairwise_append, List.pairwise_cons]
    refine ⟨hX, ⟨fun f hf k hk => ?_, hY⟩, fun f hf g hg k hk => ?_⟩
    · rcases hhas k hk with h | h
      · exact hY1 f hf k h
      · exact hap.1 f (by simp [hf]) k h
    · rcases List.mem_cons.1 hg with rfl | hg
      · intro hk'
        rcases hhas k hk' with h | h
        · exact hXY f hf _ List.mem_cons_self k hk h
        · exact hap.1 f (by simp [hf]) k h hk
      · exact hXY f hf g (by simp [hg]) k hk
theorem Mem.innerRd (hw : Mem C w S) (hm : entInner enc M e hs rows ∈ S) (hM : ∀ x, (enc x).length = M) {j : Nat} (h1 : j < hs.length) (h2 : j < rows.length) : hs[j].n = rows[j].length ∧ RdE enc M w hs[j].a rows[j] := by
  have hp : Inner enc M e w hs rows := (hw.holds _ hm).1
  obtain ⟨hn, ho⟩ := forall2_at hp.1 j h1 h2
  refine ⟨hn, ?_⟩
  obtain ⟨A', c', hv, hr⟩ := Own.rd ho hM
  unfold Hd.v at hv
  simp only [Value.slice.injEq] at hv
  rw [hv.1]; exact hr
theorem Mem.innerLen (hw : Mem C w S) (hm : entInner enc M e hs rows ∈ S) : hs.length = rows.length := by
  have hp : Inner enc M e w hs rows := (hw.holds _ hm).1
  exact forall2_len hp.1
theorem T_innerLen {P : Program} {Q : Exit → Act → World → Prop} {E : Slots} {code : Code} (hm : entInner enc M e hs rows ∈ S) (h : hs.length = rows.length → T P C code Q E S) : T P C code Q E S :=
  ⟨fun a w ha hw => (h (hw.innerLen hm)).run a w ha hw⟩
/-- a list of lists that the caller takes: its own, both the headers and the rows -/
def OwnRows (enc : α → List Value) (M e e2 : Nat) (w : World) (B : Nat) (A : Option Addr) (c : Nat) (hs : List Hd) (rows : List (List α)) : Prop :=
  Own hdEnc 1 e2 w 0 (.slice A hs.length c) hs ∧ Inner enc M e w hs rows ∧ (∀ k, ((Value.slice A hs.length c).ownBlock = some k ∨ ∃ h ∈ hs, h.v.ownBlock = some k) → B ≤ k ∧ k < w.heap.size) ∧ ∀ k, (Value.slice A hs.length c).ownBlock = some k → ¬ ∃ h ∈ hs, h.v.ownBlock = some k
theorem Mem.rowsOut {e2 : Nat} (hw : Mem C w S) (hF : C.F = []) (hs2 : [entOwn hdEnc 1 e2 A c hs, entInner enc M e hs rows].Sublist S) : OwnRows enc M e e2 w C.w0.heap.size A c hs rows := by
  have hw' := hw.sub hs2
  have h1 := hw'.holds _ List.mem_cons_self
  have h2 := hw'.holds (entInner enc M e hs rows) (by simp)
  have h3 := (List.pairwise_cons.1 hw'.apart).1 (entInner enc M e hs rows) (by simp)
  refine ⟨h1.1, h2.1, fun k hk => ?_, fun k hk hk' => h3 k hk hk'⟩
  rcases hk with hk | hk
  · have := h1.2 k hk
    rw [hF] at this
    exact ⟨this.2.resolve_left (by simp), this.1⟩
  · have := h2.2 k hk
    rw [hF] at this
    exact ⟨this.2.resolve_left (by simp), this.1⟩
theorem Mem.rowsIn {e2 : Nat} (hw : Mem C w S) (hb : Below w.heap.size w w') (h : OwnRows enc M e e2 w' w.heap.size A c hs rows) : Mem C w' (entOwn hdEnc 1 e2 A c hs :: entInner enc M e hs rows :: S) := by
  have h1 : Mem C w' (entInner enc M e hs rows :: S) := hw.fresh hb (fun g hg => h.2.2.1 g (.inr hg)) h.2.1
  refine ⟨h1.keeps, fun f hf => ?_, ?_⟩
  · rcases List.mem_cons.1 hf with rfl | hf
    · refine ⟨h.1, fun g hg => ?_⟩
      have := h.2.2.1 g (.inl hg)
      exact ⟨this.2, .inr (Nat.le_trans hw.keeps.size this.1)⟩
    · exact h1.holds f hf
  · refine List.pairwise_cons.2 ⟨fun f hf k hk => ?_, h1.apart⟩
    rcases List.mem_cons.1 hf with rfl | hf
    · exact h.2.2.2 k hk
    · intro hk'
      have q1 := (h.2.2.1 k (.inl hk)).1
      have q2 := ((hw.holds f hf).2 k hk').1
      omega
end
section
variable {P : Program} {C : Ctx} {E : Slots} {S : List Ent} {f d ty : Nat} {ps : String} {af : Array Edge} {g0 : Option (Nat × Bool)} {α : Type} {enc : α → List Value} {M e e2 : Nat} {rows : List (List α)}
def HdOf (hs : List Hd) (rows : List (List α)) : Prop := hs.length = rows.length ∧ ∀ j (h1 : j < hs.length) (h2 : j < rows.length), hs[j].n = rows[j].length
theorem OwnRows.hd {w : World} {B : Nat} {A : Option Addr} {c : Nat} {hs : List Hd} (h : OwnRows enc M e e2 w B A c hs rows) : HdOf hs rows :=
  ⟨forall2_len h.2.1.1, fun j h1 h2 => (forall2_at h.2.1.1 j h1 h2).1⟩
/-- a call that hands back a list of lists that it made -/
theorem ES_callRows [hf : IsFn P f] {xs : List Operand} {vs : List Value} {ats : Array TypeId} {r : Option Addr → Nat → List Hd → Value} (hx : evs E xs = some vs)
    (hc : ∀ w, Mem C w S → Calls P f vs.toArray w fun x w' => ∃ A c hs, x = .returned (r A c hs) ∧ OwnRows enc M e e2 w' w.heap.size A c hs rows ∧ Below w.heap.size w w') (hd : Nat.ble (d + 1) C.n = true) :
    ES P C E S ⟨some d, .call ⟨.value (.func f), xs.toArray, ats⟩, ty, ps, af, g0⟩ (fun E' S' => ∃ A c hs, HdOf hs rows ∧ E' = (d, r A c hs) :: E ∧ S' = entOwn hdEnc 1 e2 A c hs :: entInner enc M e hs rows :: S) :=
  (ES_call (fun u T => ∃ A c hs, HdOf hs rows ∧ u = r A c hs ∧ T = entOwn hdEnc 1 e2 A c hs :: entInner enc M e hs rows :: S) hx (fun w hw => (hc w hw).mono fun e w' ⟨A, c, hs, he, ho, hb⟩ => ⟨_, _, he, hw.rowsIn hb ho, A, c, hs, ho.hd, rfl, rfl⟩) hd).weak
    (by rintro _ _ ⟨_, ⟨A, c, hs, hh, rfl, rfl⟩, rfl⟩; exact ⟨A, c, hs, hh, rfl, rfl⟩)
/-- the whole of an array that lies in memory -/
theorem QS_sliceArr {t n e m g o : Nat} {x : Operand} [hs : ArrayOf P t n e m] (hx : evo E x = some (.pointer (some ⟨g, o, none⟩))) : QS P C E S (.slice t x none none none) ty (.slice (some ⟨g, o, none⟩) n n) :=
  QS.of (fun a w ha _ => by
    have he : P.elem t = e := by simp [Program.elem, hs.und]
    have hn : P.arrayLen t = n := by simp [Program.arrayLen, hs.und]
    have hr := run_sliceAt_array_all (P := P) w t ⟨g, o, none⟩ (by rw [he, hn]; exact hs.und)
    rw [he, hn, hs.size w] at hr
    have hv : slicedAt ⟨g, o, none⟩ 0 n n m = .slice (some ⟨g, o, none⟩) n n := by
      unfold slicedAt
      split <;> simp [add_mk]
    simp only [Result.andThen_ok, hv] at hr
    simp [execOp, ha.evo hx, hr])
end
end Go.Proofs.Ytbhjljnbjomnhaa

namespace Go.Proofs.Ytbhjljnbjomnhaa
open Go.RowKit

theorem TL_fact {P : Program} {C : Ctx} {Q : Exit → Act → World → Prop} {E : Slots} {S : List Ent} {l rest : List Oper} {p : Prop} (hS : ∀ w, Mem C w S → p) (h : p → TL P C l Q rest E S) : TL P C l Q rest E S :=
  ⟨fun a w ha hw => (h (hS w hw)).run a w ha hw⟩
def hd0 : Hd := ⟨none, 0, 0⟩
theorem All2.set {α β : Type} {R : α → β → Prop} {a : α} {b : β} (h : R a b) : ∀ {l : List α} {m : List β} (j : Nat), All2 R l m → All2 R (l.set j a) (m.set j b)
  | _, _, _, .nil => by simpa using All2.nil
  | _, _, 0, .cons _ t => .cons h t
  | _, _, j + 1, .cons h' t => .cons h' (All2.set h j t)
theorem pairwise_set {α : Type} {R : α → α → Prop} {a : α} : ∀ {l : List α} (j : Nat), l.Pairwise R → (∀ x ∈ l, R a x) → (∀ x ∈ l, R x a) → (l.set j a).Pairwise R
  | [], _, _, _, _ => by simp
  | x :: l, 0, h, h1, _ => by
    rw [List.set_cons_zero, List.pairwise_cons]
    exact ⟨fun y hy => h1 y (by simp [hy]), (List.pairwise_cons.1 h).2⟩
  | x :: l, j + 1, h, h1, h2 => by
    rw [List.set_cons_succ, List.pairwise_cons]
    obtain ⟨q1, q2⟩ := List.pairwise_cons.1 h
    refine ⟨fun y hy => ?_, pairwise_set j q2 (fun y hy => h1 y (by simp [hy])) (fun y hy => h2 y (by simp [hy]))⟩
    rcases List.mem_or_eq_of_mem_set hy with hy | rfl
    · exact q1 y hy
    · exact h2 x (by simp)
section
variable {C : Ctx} {w : World} {S S1 S' : List Ent} {α : Type} {enc : α → List Value} {M e : Nat} {hs : List Hd} {rows : List (List α)} {l : List α} {A : Option Addr} {c j : Nat}
theorem hd0_blk : hd0.v.ownBlock = none := rfl
theorem set_has {k : Nat} {h : Hd} (hm : ∃ g ∈ hs.set j h, g.v.ownBlock = some k) : h.v.ownBlock = some k ∨ ∃ i, i ≠ j ∧ ∃ hi : i < hs.length, hs[i].v.ownBlock = some k := by
  obtain ⟨g, hg, hk⟩ := hm
  obtain ⟨i, hi, rfl⟩ := List.mem_iff_getElem.1 hg
  rw [List.length_set] at hi
  by_cases e : i = j
  · subst e
    rw [List.getElem_set_self] at hk; exact .inl hk
  · rw [List.getElem_set_ne (fun e' => e e'.symm)] at hk
    exact .inr ⟨i, e, hi, hk⟩
/-- a row is taken out -/
theorem Mem.takeRow (hj : j < hs.length) (hj' : j < rows.length) (hu : Upd S (entInner enc M e hs rows) (entInner enc M e (hs.set j hd0) (rows.set j [])) S') (hw : Mem C w S) : Mem C w (entOwn enc M e hs[j].a hs[j].c rows[j] :: S') := by
  obtain ⟨X, Y, rfl, rfl⟩ := hu.form
  have hap := hw.apart
  rw [List.pairwise_append, List.pairwise_cons] at hap
  obtain ⟨hX, ⟨hY1, hY⟩, hXY⟩ := hap
  have hin := hw.holds (entInner enc M e hs rows) (by simp)
  have hrow := forall2_at hin.1.1 j hj hj'
  have hv : hs[j].v = .slice hs[j].a rows[j].length hs[j].c := by rw [← hrow.1]; rfl
  have hsub : ∀ k, (entInner enc M e (hs.set j hd0) (rows.set j [])).has k → (entInner enc M e hs rows).has k ∧ hs[j].v.ownBlock ≠ some k := by
    intro k hk
    rcases set_has hk with h | ⟨i, hi, hil, h⟩
    · rw [hd0_blk] at h; cases h
    · refine ⟨⟨_, List.getElem_mem hil, h⟩, fun hk' => ?_⟩
      have hp := List.pairwise_iff_getElem.1 hin.1.2
      rcases Nat.lt_or_gt_of_ne hi with hlt | hlt
      · exact hp i j hil hj hlt k h hk'
      · exact hp j i hj hil hlt k hk' h
  have hown : ∀ k, (entOwn enc M e hs[j].a hs[j].c rows[j]).has k → (entInner enc M e hs rows).has k := by
    intro k hk
    refine ⟨hs[j], List.getElem_mem hj, ?_⟩
    rw [hv]; exact hk
  have hnew : Inner enc M e w (hs.set j hd0) (rows.set j []) := by
    refine ⟨All2.set ⟨rfl, Own.nil w 0⟩ j hin.1.1, pairwise_set j hin.1.2 (fun x _ k hk => ?_) (fun x _ k _ => ?_)⟩
    · rw [hd0_blk] at hk; cases hk
    · rw [hd0_blk]; simp
  refine ⟨hw.keeps, fun f hf => ?_, ?_⟩
  · rcases List.mem_cons.1 hf with rfl | hf
    · refine ⟨?_, fun k hk => hin.2 k (hown k hk)⟩
      show Own enc M e w 0 (.slice hs[j].a rows[j].length hs[j].c) rows[j]
      rw [← hv]; exact hrow.2
    · rcases List.mem_append.1 hf with hf | hf
      · exact hw.holds f (by simp [hf])
      · rcases List.mem_cons.1 hf with rfl | hf
        · exact ⟨hnew, fun k hk => hin.2 k (hsub k hk).1⟩
        · exact hw.holds f (by simp [hf])
  · refine List.pairwise_cons.2 ⟨fun f hf k hk => ?_, ?_⟩
    · rcases List.mem_append.1 hf with hf | hf
      · exact fun hk' => hXY f hf (entInner enc M e hs rows) List.mem_cons_self k hk' (hown k hk)
      · rcases List.mem_cons.1 hf with rfl | hf
        · intro hk'
          refine (hsub k hk').2 ?_
          rw [hv]; exact hk
        · exact hY1 f hf k (hown k hk)
    · rw [List.pairwise_append, List.pairwise_cons]
      refine ⟨hX, ⟨fun f hf k hk => hY1 f hf k (hsub k hk).1, hY⟩, fun f hf g hg k hk => ?_⟩
      rcases List.mem_cons.1 hg with rfl | hg
      · exact fun hk' => hXY f hf (entInner enc M e hs rows) List.mem_cons_self k hk (hsub k hk').1
      · exact hXY f hf g (by simp [hg]) k hk
/-- a row is put in the place of another one -/
theorem Mem.putRow (hp : Pick S (entOwn enc M e A c l) S1) (hu : Upd S1 (entInner enc M e hs rows) (entInner enc M e (hs.set j ⟨A, l.length, c⟩) (rows.set j l)) S') (hw : Mem C w S) : Mem C w S' := by
  have h1 := hw.pick hp
  obtain ⟨X, Y, rfl, rfl⟩ := hu.form
  have hap := List.pairwise_cons.1 h1.apart
  have hap2 := hap.2
  rw [List.pairwise_append, List.pairwise_cons] at hap2
  obtain ⟨hX, ⟨hY1, hY⟩, hXY⟩ := hap2
  have ho := h1.holds _ List.mem_cons_self
  have hin := h1.holds (entInner enc M e hs rows) (by simp)
  have hfar : ∀ k, (∃ h ∈ hs, h.v.ownBlock = some k) → (Value.slice A l.length c).ownBlock ≠ some k := fun k hk hk' => hap.1 (entInner enc M e hs rows) (by simp) k hk' hk
  have hhas : ∀ k, (entInner enc M e (hs.set j ⟨A, l.length, c⟩) (rows.set j l)).has k → (entInner enc M e hs rows).has k ∨ (entOwn enc M e A c l).has k := by
    intro k hk
    rcases set_has hk with h | ⟨i, _, hil, h⟩
    · exact .inr h
    · exact .inl ⟨_, List.getElem_mem hil, h⟩
  have hnew : Inner enc M e w (hs.set j ⟨A, l.length, c⟩) (rows.set j l) := by
    refine ⟨All2.set ⟨rfl, ho.1⟩ j hin.1.1, pairwise_set j hin.1.2 (fun x hx k hk hk' => hfar k ⟨x, hx, hk'⟩ hk) (fun x hx k hk => hfar k ⟨x, hx, hk⟩)⟩
  refine ⟨h1.keeps, fun f hf => ?_, ?_⟩
  · rcases List.mem_append.1 hf with hf | hf
    · exact h1.holds f (by simp [hf])
    · rcases List.mem_cons.1 hf with rfl | hf
      · refine ⟨hnew, fun k hk => ?_⟩
        rcases hhas k hk with h | h
        · exact hin.2 k h
        · exact ho.2 k h
      · exact h1.holds f (by simp [hf])
  · rw [List.pairwise_append, List.pairwise_cons]
    refine ⟨hX, ⟨fun f hf k hk => ?_, hY⟩, fun f hf g hg k hk => ?_⟩
    · rcases hhas k hk with h | h
      · exact hY1 f hf k h
      · exact hap.1 f (by simp [hf]) k h
    · rcases List.mem_cons.1 hg with rfl | hg
      · intro hk'
        rcases hhas k hk' with h | h
        · exact hXY f hf _ List.mem_cons_self k hk h
        · exact hap.1 f (by simp [hf]) k h hk
      · exact hXY f hf g (by simp [hg]) k hk
/-- rows that all are empty -/
theorem Mem.emptyRows (enc : α → List Value) (M e n : Nat) (hw : Mem C w S) : Mem C w (entInner enc M e (List.replicate n hd0) (List.replicate n []) :: S) := by
  have hno : ∀ k, ¬ (entInner enc M e (List.replicate n hd0) (List.replicate n [])).has k := by
    rintro k ⟨h, hm, hk⟩
    rw [(List.mem_replicate.1 hm).2, hd0_blk] at hk; cases hk
  refine hw.fresh (Below.refl _ _) (fun g hg => (hno g hg).elim) ⟨?_, ?_⟩
  · induction n with
    | zero => exact .nil
    | succ n ih => exact .cons ⟨rfl, Own.nil w 0⟩ (ih fun k hk => hno k (by obtain ⟨h, hm, hk⟩ := hk; exact ⟨h, by rw [List.mem_replicate] at hm ⊢; exact ⟨by omega, hm.2⟩, hk⟩))
  · rw [List.pairwise_replicate]
    right
    intro k hk; rw [hd0_blk] at hk; cases hk
theorem Mem.newBlkF {b : Nat} {R : List Ent} (hw : Mem C w (S1 ++ R)) (hF : b ∉ C.F) (hb : b < C.w0.heap.size) : b ∉ blks S1 := fun hm => by
  obtain ⟨e, he, hg⟩ := mem_blks.1 hm
  rcases ((hw.holds e (by simp [he])).2 b hg).2 with h | h
  · exact hF h
  · omega
theorem Mem.rdAwayF {A : Option Addr} {ls : List α} (hw : Mem C w S) (h : RdE enc M C.w0 A ls) (hF : ∀ b o, A = some ⟨b, o, Option.none⟩ → b ∉ C.F) : RdE enc M w A ls := by
  intro j x hj
  obtain ⟨b, o, h1, h2, h3⟩ := h j x hj
  exact ⟨b, o, h1, Nat.lt_of_lt_of_le h2 hw.keeps.size, fun k v hk => hw.old h2 (hF b o h1) (h3 k v hk)⟩
/-- the last item is left off -/
theorem Mem.ownLast {g et : Nat} {ls : List α} {x : α} (hu : Upd S (entOwn enc M et (some ⟨g, 0, Option.none⟩) c (ls ++ [x])) (entOwn enc M et (some ⟨g, 0, Option.none⟩) c ls) S') (hM : ∀ x, (enc x).length = M) (hw : Mem C w S) : Mem C w S' := by
  have ho := hw.holds _ hu.mem
  have h : Own enc M et w 0 (.slice (some ⟨g, 0, Option.none⟩) (ls ++ [x]).length c) (ls ++ [x]) := ho.1
  refine hw.upd hu (Keeps.refl [] w) (by simp) (fun k hk => ?_) ?_
  · have : some g = some k := hk
    cases this
    exact ⟨(ho.2 g rfl).1, .inl rfl⟩
  · obtain ⟨g', cap, cur, hv, hbb, hg, hnc, hcm, hcs, htake⟩ := h.2.resolve_left (by simp)
    simp only [Value.slice.injEq, Option.some.injEq, Addr.mk.injEq, and_true, true_and] at hv
    obtain ⟨rfl, rfl⟩ := hv
    rw [List.length_append, List.length_singleton] at hnc
    refine ⟨flat_len hM _, .inr ⟨g, c, cur, rfl, hbb, hg, by omega, hcm, hcs, ?_⟩⟩
    have e1 : (ls ++ [x]).flatMap enc = ls.flatMap enc ++ enc x := by rw [List.flatMap_append]; simp
    rw [e1, List.length_append, List.length_singleton] at htake
    have h2 := congrArg (List.take (ls.length * M)) htake
    rw [List.take_take, List.take_append_of_le_length (by rw [flat_len hM]; omega)] at h2
    rw [List.take_of_length_le (l := ls.flatMap enc) (by rw [flat_len hM]; omega)] at h2
    rw [← h2, Nat.min_eq_left]
    rw [Nat.add_mul]; omega
end
end Go.Proofs.Ytbhjljnbjomnhaa
