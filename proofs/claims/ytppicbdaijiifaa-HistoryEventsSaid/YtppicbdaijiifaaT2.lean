/- The rules of the operations. No condition. -/
import Derived.Test.YtppicbdaijiifaaT
import Derived.Test.YtppicbdaijiifaaOwn
set_option linter.unusedSimpArgs false
set_option linter.unusedVariables false
set_option linter.unusedSectionVars false
set_option linter.unnecessarySimpa false
namespace Go.Proofs.Ytppicbdaijiifaa
open Go.RowKit

section
variable {P : Program} {C : Ctx} {Q : Exit → Act → World → Prop} {E : Slots} {S : List Ent} {l rest : List Oper}
variable {d ty ty2 : Nat} {ps : String} {af : Array Edge}

/-- an operation carried out: what is known behind it -/
def ES (P : Program) (C : Ctx) (E : Slots) (S : List Ent) (o : Oper) (N : Slots → List Ent → Prop) : Prop :=
  ∀ (a : Act) (w : World) (K : Act → World → Prop) (Q : Exit → Act → World → Prop), Env C.n a E → Mem C w S → (∀ a' w' E' S', N E' S' → Env C.n a' E' → Mem C w' S' → K a' w') → o.wp P a w K Q
theorem TL_e {o : Oper} {N : Slots → List Ent → Prop} (he : ES P C E S o N) (hg : o.guard = none) (h : ∀ E' S', N E' S' → TL P C l Q rest E' S') : TL P C l Q (o :: rest) E S := by
  refine ⟨fun a w ha hw => wpList_plain hg fun K hK => he a w K Q ha hw fun a' w' E' S' hN ha' hw' => hK _ _ ((h E' S' hN).run _ _ ha' hw')⟩
variable {g0 : Option (Nat × Bool)}
/-- an operation that leaves a value (and memory) -/
theorem ES_core {op : Op} (Φ : Value → List Ent → Prop)
    (hr : ∀ a w, Env C.n a E → Mem C w S → ∃ v w' S', (execOp a.eval ⟨some d, op, ty, ps, af, g0⟩).run P w = .ok (.value v) w' ∧ Mem C w' S' ∧ Φ v S')
    (hd : Nat.ble (d + 1) C.n = true) : ES P C E S ⟨some d, op, ty, ps, af, g0⟩ (fun E' S' => ∃ v, Φ v S' ∧ E' = (d, v) :: E) := by
  intro a w K Q ha hw hK
  obtain ⟨v, w', S', h1, h2, h3⟩ := hr a w ha hw
  unfold Oper.wp
  rw [h1]
  exact hK _ _ _ _ ⟨v, h3, rfl⟩ (ha.put hd v) h2
theorem ES_skip {op : Op} (Φ : List Ent → Prop)
    (hr : ∀ a w, Env C.n a E → Mem C w S → ∃ w' S', (execOp a.eval ⟨none, op, ty, ps, af, g0⟩).run P w = .ok .skip w' ∧ Mem C w' S' ∧ Φ S') : ES P C E S ⟨none, op, ty, ps, af, g0⟩ (fun E' S' => Φ S' ∧ E' = E) := by
  intro a w K Q ha hw hK
  obtain ⟨w', S', h1, h2, h3⟩ := hr a w ha hw
  unfold Oper.wp
  rw [h1]
  exact hK _ _ _ _ ⟨h3, rfl⟩ ha h2
theorem ES_enter {op : Op} {f : FuncId} {args : Array Value} (Φ : Value → List Ent → Prop)
    (hr : ∀ a w, Env C.n a E → (execOp a.eval ⟨some d, op, ty, ps, af, g0⟩).run P w = .ok (.enter f args) w)
    (hc : ∀ w, Mem C w S → Calls P f args w fun e w' => ∃ v S', e = .returned v ∧ Mem C w' S' ∧ Φ v S')
    (hd : Nat.ble (d + 1) C.n = true) : ES P C E S ⟨some d, op, ty, ps, af, g0⟩ (fun E' S' => ∃ v, Φ v S' ∧ E' = (d, v) :: E) := by
  intro a w K Q ha hw hK
  unfold Oper.wp
  rw [hr a w ha]
  simp only [Oper.upon]
  refine (hc w hw).mono ?_
  rintro e w' ⟨v, S', rfl, h2, h3⟩
  exact hK _ _ _ _ ⟨v, h3, rfl⟩ (ha.put hd v) h2
theorem ES.weak {o : Oper} {N N' : Slots → List Ent → Prop} (h : ES P C E S o N) (hN : ∀ E' S', N E' S' → N' E' S') : ES P C E S o N' :=
  fun a w K Q ha hw hK => h a w K Q ha hw fun a' w' E' S' hn ha' hw' => hK a' w' E' S' (hN E' S' hn) ha' hw'
theorem TL_pure {op : Op} (v : Value) (hr : ∀ a w, Env C.n a E → Mem C w S → (execOp a.eval ⟨some d, op, ty, ps, af, none⟩).run P w = .ok (.value v) w)
    (hd : Nat.ble (d + 1) C.n = true) (h : TL P C l Q rest ((d, v) :: E) S) : TL P C l Q (⟨some d, op, ty, ps, af, none⟩ :: rest) E S :=
  TL_e (ES_core (fun u S' => u = v ∧ S' = S) (fun a w ha hw => ⟨v, w, S, hr a w ha hw, hw, rfl, rfl⟩) hd) rfl (by rintro _ _ ⟨_, ⟨rfl, rfl⟩, rfl⟩; exact h)

/-- an operation that leaves memory alone and yields the value -/
def QS (P : Program) (C : Ctx) (E : Slots) (S : List Ent) (op : Op) (ty : Nat) (v : Value) : Prop :=
  ∀ (dst : Option Tmp) (ps : String) (af : Array Edge) (g : Option (Nat × Bool)) a w, Env C.n a E → Mem C w S → (execOp a.eval ⟨dst, op, ty, ps, af, g⟩).run P w = .ok (.value v) w
theorem QS.of {op : Op} {v : Value} (h : ∀ {dst : Option Tmp} {ps : String} {af : Array Edge} {g : Option (Nat × Bool)} a w, Env C.n a E → Mem C w S → (execOp a.eval ⟨dst, op, ty, ps, af, g⟩).run P w = .ok (.value v) w) : QS P C E S op ty v :=
  fun _ _ _ _ a w ha hw => h a w ha hw
theorem QS.sub {op : Op} {v : Value} {S' : List Ent} (h : QS P C E S' op ty v) (hs : S'.Sublist S) : QS P C E S op ty v :=
  fun _ _ _ _ a w ha hw => h _ _ _ _ a w ha (hw.sub hs)
theorem TL_q {op : Op} {v : Value} (hq : QS P C E S op ty v) (hd : Nat.ble (d + 1) C.n = true) (h : TL P C l Q rest ((d, v) :: E) S) : TL P C l Q (⟨some d, op, ty, ps, af, none⟩ :: rest) E S :=
  TL_pure v (fun a w ha hw => hq _ _ _ _ a w ha hw) hd h

theorem bnt {b : Bool} (h : (!b) = true) : b = false := by cases b; rfl; cases h
theorem bnf {b : Bool} (h : (!b) = false) : b = true := by cases b; cases h; rfl
theorem band_dec {p q : Prop} [Decidable p] [Decidable q] (h : (decide p && decide q) = true) : p ∧ q := by
  rw [Bool.and_eq_true] at h; exact ⟨of_decide_eq_true h.1, of_decide_eq_true h.2⟩
theorem band_decF {p q : Prop} [Decidable p] [Decidable q] (h : (decide p && decide q) = false) : ¬ p ∨ ¬ q := by
  rw [Bool.and_eq_false_iff] at h; exact h.imp of_decide_eq_false of_decide_eq_false
theorem bor_dec {p q : Prop} [Decidable p] [Decidable q] (h : (decide p || decide q) = true) : p ∨ q := by
  rw [Bool.or_eq_true] at h; exact h.imp of_decide_eq_true of_decide_eq_true
theorem bor_decF {p q : Prop} [Decidable p] [Decidable q] (h : (decide p || decide q) = false) : ¬ p ∧ ¬ q := by
  rw [Bool.or_eq_false_iff] at h; exact ⟨of_decide_eq_false h.1, of_decide_eq_false h.2⟩
/-! Guards -/
theorem imp_lit1 {p : Prop} (h : p) : true = true → p := fun _ => h
theorem imp_lit0 {p : Prop} : false = true → p := fun h => by cases h
def dstAt : List Oper → Nat → Option Tmp
  | [], _ => none
  | o :: _, 0 => o.dst
  | _ :: l, i + 1 => dstAt l i
theorem dstAt_eq : ∀ (l : List Oper) (i : Nat), (l[i]?).bind (·.dst) = dstAt l i
  | [], i => by simp [dstAt]
  | o :: l, 0 => by simp [dstAt]
  | o :: l, i + 1 => by simpa [dstAt] using dstAt_eq l i
theorem yielded_at {a : Act} {j t : Nat} {b : Bool} (ha : Env C.n a E) (hj : dstAt l j = some t) (ht : look t E = some (.bool b)) : yielded l.toArray a.tmps j = some b := by
  have := ha.2.2 t _ ht
  simp [yielded, dstAt_eq, hj, this]
theorem yielded_undef {a : Act} {j t : Nat} (ha : Env C.n a E) (hj : dstAt l j = some t) (ht : look t E = some undef) : yielded l.toArray a.tmps j = none := by
  have := ha.2.2 t _ ht
  simp [yielded, dstAt_eq, hj, this, undef]
/-- the guard says no -/
theorem TL_no {op : Op} {j t : Nat} {b want : Bool} (hj : dstAt l j = some t) (ht : look t E = some (.bool b)) (hb : b = !want) (hd : Nat.ble (d + 1) C.n = true)
    (h : TL P C l Q rest ((d, undef) :: E) S) : TL P C l Q (⟨some d, op, ty, ps, af, some (j, want)⟩ :: rest) E S := by
  refine ⟨fun a w ha hw => ?_⟩
  refine wpList_skip ?_ (h.run _ _ (ha.put hd undef) hw)
  simp only [Region.wanted, yielded_at ha hj ht, hb]
  cases want <;> rfl
theorem TL_no_undef {op : Op} {j t : Nat} {want : Bool} (hj : dstAt l j = some t) (ht : look t E = some undef) (hd : Nat.ble (d + 1) C.n = true)
    (h : TL P C l Q rest ((d, undef) :: E) S) : TL P C l Q (⟨some d, op, ty, ps, af, some (j, want)⟩ :: rest) E S := by
  refine ⟨fun a w ha hw => ?_⟩
  refine wpList_skip ?_ (h.run _ _ (ha.put hd undef) hw)
  simp only [Region.wanted, yielded_undef ha hj ht]
  rfl
/-- the guard says yes -/
theorem TL_yes {op : Op} {dst : Option Tmp} {j t : Nat} {b want : Bool} (hj : dstAt l j = some t) (ht : look t E = some (.bool b)) (hb : b = want)
    (h : TL P C l Q (⟨dst, op, ty, ps, af, none⟩ :: rest) E S) : TL P C l Q (⟨dst, op, ty, ps, af, some (j, want)⟩ :: rest) E S := by
  refine ⟨fun a w ha hw => ?_⟩
  have := h.run a w ha hw
  unfold wpList at this ⊢
  rw [if_pos (by simp only [Region.wanted, yielded_at ha hj ht, hb]; simp)]
  rw [if_pos (by simp [Region.wanted])] at this
  rcases this with h1 | h1
  · exact .inl h1
  · exact .inr h1
/-- what guards is decided -/
theorem TL_guard {op : Op} {dst : Option Tmp} {j t : Nat} {b want : Bool} (hj : dstAt l j = some t) (ht : look t E = some (.bool b))
    (h1 : b = true → TL P C l Q (⟨dst, op, ty, ps, af, some (j, want)⟩ :: rest) ((t, .bool true) :: E) S)
    (h0 : b = false → TL P C l Q (⟨dst, op, ty, ps, af, some (j, want)⟩ :: rest) ((t, .bool false) :: E) S) : TL P C l Q (⟨dst, op, ty, ps, af, some (j, want)⟩ :: rest) E S := by
  refine ⟨fun a w ha hw => ?_⟩
  cases hb : b
  · exact (h0 hb).run a w (ha.same ht (by rw [hb])) hw
  · exact (h1 hb).run a w (ha.same ht (by rw [hb])) hw

/-! Moves, numbers, tests -/
section
variable {x y c : Operand} {v u : Value}
theorem QS_move (hx : evo E x = some v) : QS P C E S (.move x) ty (v) :=
  QS.of (fun a w ha _ => by simp [execOp, ha.evo hx])
theorem QS_assign (hx : evo E x = some v) : QS P C E S (.assign x) ty (v) :=
  QS.of (fun a w ha _ => by simp [execOp, ha.evo hx])
theorem QS_pick_true {b : Bool} (hc : evo E c = some (.bool b)) (hb : b = true) (hx : evo E x = some v) : QS P C E S (.pick c x y) ty (v) :=
  QS.of (fun a w ha _ => by subst hb; simp [execOp, ha.evo hx, ha.evo hc, asBool, Sem.run])
theorem QS_pick_false {b : Bool} (hc : evo E c = some (.bool b)) (hb : b = false) (hx : evo E y = some v) : QS P C E S (.pick c x y) ty (v) :=
  QS.of (fun a w ha _ => by subst hb; simp [execOp, ha.evo hx, ha.evo hc, asBool, Sem.run])
theorem QS_pick {b : Bool} (hc : evo E c = some (.bool b)) (hx : evo E x = some v) (hy : evo E y = some u) : QS P C E S (.pick c x y) ty (if b then v else u) :=
  QS.of (fun a w ha _ => by cases b <;> simp [execOp, ha.evo hx, ha.evo hy, ha.evo hc, asBool, Sem.run])
theorem QS_pick_bool {b b1 b2 : Bool} (hc : evo E c = some (.bool b)) (hx : evo E x = some (.bool b1)) (hy : evo E y = some (.bool b2)) : QS P C E S (.pick c x y) ty (.bool (if b then b1 else b2)) :=
  QS.of (fun a w ha _ => by cases b <;> simp [execOp, ha.evo hx, ha.evo hy, ha.evo hc, asBool, Sem.run])
theorem QS_not {b : Bool} (hx : evo E x = some (.bool b)) : QS P C E S (.unOp .not ty2 x) ty (.bool (!b)) :=
  QS.of (fun a w ha _ => by simp [execOp, ha.evo hx, Op.unary])
variable {k : IntKind} {m n : Int} {ty3 : Nat}
theorem binInt {dst : Option Tmp} {ps : String} {af : Array Edge} {g : Option (Nat × Bool)} {op : BinOp} {t : TypeId} {a : Act} {w : World} (ha : Env C.n a E) (hx : evo E x = some (.int k m)) (hy : evo E y = some (.int k n)) (r : Value)
    (hr : (binOp op t (.int k m) (.int k n)).run P w = .ok r w) : (execOp a.eval ⟨dst, .binOp op t x y ty3, ty, ps, af, g⟩).run P w = .ok (.value r) w := by
  unfold execOp
  simp only [ha.evo hx, ha.evo hy]
  have : (eqGuard op t x y (.int k m) (.int k n)).run P w = .ok () w := by
    unfold eqGuard
    cases op <;> rfl
  simp only [Sem.run_bind, this, Result.andThen_ok, hr]
  rfl
section
variable (hx : evo E x = some (.int k m)) (hy : evo E y = some (.int k n)) 
include hx hy
theorem QS_lss : QS P C E S (.binOp .lss ty2 x y ty3) ty (.bool (decide (m < n))) := QS.of (fun a w ha _ => binInt ha hx hy _ (by simp [binOp, Op.intCmp]))
theorem QS_leq : QS P C E S (.binOp .leq ty2 x y ty3) ty (.bool (decide (m ≤ n))) := QS.of (fun a w ha _ => binInt ha hx hy _ (by simp [binOp, Op.intCmp]))
theorem QS_gtr : QS P C E S (.binOp .gtr ty2 x y ty3) ty (.bool (decide (n < m))) := QS.of (fun a w ha _ => binInt ha hx hy _ (by simp [binOp, Op.intCmp]))
theorem QS_geq : QS P C E S (.binOp .geq ty2 x y ty3) ty (.bool (decide (n ≤ m))) := QS.of (fun a w ha _ => binInt ha hx hy _ (by simp [binOp, Op.intCmp]))
theorem QS_eql : QS P C E S (.binOp .eql ty2 x y ty3) ty (.bool (decide (m = n))) :=
  QS.of (fun a w ha _ => binInt ha hx hy _ (by simp [binOp, Op.intCmp]; rfl))
theorem QS_neq : QS P C E S (.binOp .neq ty2 x y ty3) ty (.bool (!decide (m = n))) :=
  QS.of (fun a w ha _ => binInt ha hx hy _ (by simp [binOp, Op.intCmp]; rfl))
end
section
variable (hx : evo E x = some (.int .i64 m)) (hy : evo E y = some (.int .i64 n))
include hx hy
theorem QS_add (h1 : -9223372036854775808 ≤ m + n) (h2 : m + n ≤ 9223372036854775807) : QS P C E S (.binOp .add ty2 x y ty3) ty (.int .i64 (m + n)) :=
  QS.of (fun a w ha _ => binInt ha hx hy _ (by simp [binOp, Op.intArith, IntWalk.i64_in _ ⟨h1, h2⟩]))
theorem QS_sub (h1 : -9223372036854775808 ≤ m - n) (h2 : m - n ≤ 9223372036854775807) : QS P C E S (.binOp .sub ty2 x y ty3) ty (.int .i64 (m - n)) :=
  QS.of (fun a w ha _ => binInt ha hx hy _ (by simp [binOp, Op.intArith, IntWalk.i64_in _ ⟨h1, h2⟩]))
theorem QS_mul (h1 : -9223372036854775808 ≤ m * n) (h2 : m * n ≤ 9223372036854775807) : QS P C E S (.binOp .mul ty2 x y ty3) ty (.int .i64 (m * n)) :=
  QS.of (fun a w ha _ => binInt ha hx hy _ (by simp [binOp, Op.intArith, IntWalk.i64_in _ ⟨h1, h2⟩]))
end
theorem QS_max (hx : evo E x = some (.int k m)) (hy : evo E y = some (.int k n))  {ats : Array TypeId} : QS P C E S (.call ⟨.builtin .max, #[x, y], ats⟩) ty (.int k (max m n)) :=
  QS.of (fun a w ha _ => by
    simp only [execOp, resolve, invoke, builtin, List.map_toArray, List.map_cons, List.map_nil, ha.evo hx, ha.evo hy, Sem.run_bind, Sem.run_pure, Result.andThen_ok, run_max_int2]
    congr 3
    simp only [Int.max_def]; split <;> split <;> omega)
theorem QS_min (hx : evo E x = some (.int k m)) (hy : evo E y = some (.int k n))  {ats : Array TypeId} : QS P C E S (.call ⟨.builtin .min, #[x, y], ats⟩) ty (.int k (min m n)) :=
  QS.of (fun a w ha _ => by
    simp only [execOp, resolve, invoke, builtin, List.map_toArray, List.map_cons, List.map_nil, ha.evo hx, ha.evo hy, Sem.run_bind, Sem.run_pure, Result.andThen_ok, run_min_int2]
    congr 3
    simp only [Int.min_def]; split <;> split <;> omega)
def nthV : List Value → Nat → Option Value
  | [], _ => none
  | v :: _, 0 => some v
  | _ :: vs, i + 1 => nthV vs i
theorem nthV_eq : ∀ (vs : List Value) (i : Nat), vs[i]? = nthV vs i
  | [], i => by simp [nthV]
  | v :: vs, 0 => by simp [nthV]
  | v :: vs, i + 1 => by simpa [nthV] using nthV_eq vs i
theorem QS_extract {i : Nat} {vs : List Value} (hx : evo E x = some (.tuple vs.toArray)) (hi : nthV vs i = some v) : QS P C E S (.extract x i) ty (v) :=
  QS.of (fun a w ha _ => by simp [execOp, ha.evo hx, Instr.extract, nthV_eq, hi])
theorem QS_nilCheck {ad : Addr} (hx : evo E x = some (.pointer (some ad))) : QS P C E S (.nilCheck x) ty (.pointer (some ad)) :=
  QS.of (fun a w ha _ => by simp [execOp, ha.evo hx])
end

/-! Types -/
class FieldAt (P : Program) (s f : Nat) (off : outParam Nat) : Prop where
  run : ∀ (g o : Nat) (w : World), (Instr.fieldAt s (.pointer (some ⟨g, o, none⟩)) f).run P w = .ok (.pointer (some ⟨g, o + off, none⟩)) w
class SliceOf (P : Program) (t : Nat) (e m : outParam Nat) : Prop where
  und : P.underlying t = some (.slice e)
  size : ∀ w, (sizeOf e).run P w = .ok m w
class ArrayOf (P : Program) (t : Nat) (n e m : outParam Nat) : Prop where
  und : P.underlying t = some (.array n e)
  size : ∀ w, (sizeOf e).run P w = .ok m w
class OneCell (P : Program) (t : Nat) : Prop where
  agg : ∀ w, (isAgg t).run P w = .ok false w
  size : ∀ w, (sizeOf t).run P w = .ok 1 w
class AggOf (P : Program) (t : Nat) (m : outParam Nat) : Prop where
  agg : ∀ w, (isAgg t).run P w = .ok true w
  size : ∀ w, (sizeOf t).run P w = .ok m w
class ZeroOf (P : Program) (t : Nat) (z : outParam Value) : Prop where
  run : ∀ w, (zeroValue t).run P w = .ok z w
/-- a map whose keys are ints -/
class MapOf (P : Program) (t : Nat) (k e : outParam Nat) : Prop where
  und : P.underlying t = some (.map k e)
  key : P.underlying k = some (.int .i64)
class IntOf (P : Program) (t : Nat) (k : outParam IntKind) : Prop where
  und : P.underlying t = some (.int k)

theorem add_mk (g o i : Nat) : (⟨g, o, none⟩ : Addr).add i = ⟨g, o + i, none⟩ := Addr.add_mid g o i
section
variable {x y z : Operand} {v u : Value} {g o c n m e len i f off s : Nat}
theorem QS_field {o' : Nat} [FieldAt P s f off] (hx : evo E x = some (.pointer (some ⟨g, o, none⟩))) (ho : o + off = o') : QS P C E S (.fieldAddr s x f) ty (.pointer (some ⟨g, o', none⟩)) :=
  QS.of (fun a w ha _ => by subst ho; simp [execOp, ha.evo hx, FieldAt.run])
theorem off_z (o m : Nat) : o + 0 * m = o := by omega
theorem off_01 (j : Nat) : 0 + j * 1 = j := by omega
theorem off_0m (j m : Nat) : 0 + j * m = j * m := by omega
theorem off_o1 (o j : Nat) : o + j * 1 = o + j := by omega
/-- an index that is a letter of Nat -/
theorem QS_index [hs : SliceOf P s e m] {k : IntKind} {j o' : Nat} (hx : evo E x = some (.slice (some ⟨g, o, none⟩) len c)) (hy : evo E y = some (.int k (j : Nat))) (hj : j < len) (ho : o + j * m = o') : QS P C E S (.indexAddr s x y) ty (.pointer (some ⟨g, o', none⟩)) :=
  QS.of (fun a w ha _ => by
    have he : P.elem s = e := by simp [Program.elem, hs.und]
    have hr := run_indexAt_slice (P := P) w s ⟨g, o, none⟩ len c k (j : Int) (by rw [he]; exact hs.und)
    rw [if_pos ⟨by omega, by omega⟩, he, hs.size w] at hr
    simp only [Result.andThen_ok, Int.toNat_natCast, add_mk] at hr
    subst ho
    simp [execOp, ha.evo hx, ha.evo hy, hr])
theorem QS_indexZ [hs : SliceOf P s e m] {k : IntKind} {j : Int} {o' : Nat} (hx : evo E x = some (.slice (some ⟨g, o, none⟩) len c)) (hy : evo E y = some (.int k j)) (h0 : 0 ≤ j) (hj : j < len) (ho : o + j.toNat * m = o') : QS P C E S (.indexAddr s x y) ty (.pointer (some ⟨g, o', none⟩)) :=
  QS_index (j := j.toNat) hx (by rw [hy]; congr; omega) (by omega) ho
theorem QS_indexA [hs : ArrayOf P s n e m] {k : IntKind} {j o' : Nat} (hx : evo E x = some (.pointer (some ⟨g, o, none⟩))) (hy : evo E y = some (.int k (j : Nat))) (hj : j < n) (ho : o + j * m = o') : QS P C E S (.indexAddr s x y) ty (.pointer (some ⟨g, o', none⟩)) :=
  QS.of (fun a w ha _ => by
    have he : P.elem s = e := by simp [Program.elem, hs.und]
    have hn : P.arrayLen s = n := by simp [Program.arrayLen, hs.und]
    have hr := run_indexAt_array (P := P) w s ⟨g, o, none⟩ k (j : Int) (by rw [he, hn]; exact hs.und)
    rw [hn, if_pos ⟨by omega, by omega⟩, he, hs.size w] at hr
    simp only [Result.andThen_ok, Int.toNat_natCast, add_mk] at hr
    subst ho
    simp [execOp, ha.evo hx, ha.evo hy, hr])
theorem QS_indexAZ [hs : ArrayOf P s n e m] {k : IntKind} {j : Int} {o' : Nat} (hx : evo E x = some (.pointer (some ⟨g, o, none⟩))) (hy : evo E y = some (.int k j)) (h0 : 0 ≤ j) (hj : j < n) (ho : o + j.toNat * m = o') : QS P C E S (.indexAddr s x y) ty (.pointer (some ⟨g, o', none⟩)) :=
  QS_indexA (j := j.toNat) hx (by rw [hy]; congr; omega) (by omega) ho
class IntLit (z : Int) (n : outParam Nat) : Prop where
  eq : z = n
instance : IntLit 0 0 := ⟨rfl⟩
instance : IntLit 1 1 := ⟨rfl⟩
instance : IntLit 2 2 := ⟨rfl⟩
instance : IntLit 3 3 := ⟨rfl⟩
instance : IntLit 4 4 := ⟨rfl⟩
instance : IntLit 5 5 := ⟨rfl⟩
instance : IntLit 6 6 := ⟨rfl⟩
instance : IntLit 7 7 := ⟨rfl⟩
instance : IntLit 8 8 := ⟨rfl⟩
instance : IntLit 9 9 := ⟨rfl⟩
instance : IntLit 10 10 := ⟨rfl⟩
instance : IntLit 11 11 := ⟨rfl⟩
instance : IntLit 12 12 := ⟨rfl⟩
instance : IntLit 13 13 := ⟨rfl⟩
instance : IntLit 14 14 := ⟨rfl⟩
instance : IntLit 15 15 := ⟨rfl⟩
instance : IntLit 16 16 := ⟨rfl⟩
theorem QS_indexL [hs : SliceOf P s e m] {k : IntKind} {j : Int} {jn o' : Nat} (hx : evo E x = some (.slice (some ⟨g, o, none⟩) len c)) (hy : evo E y = some (.int k j)) (hn : IntLit j jn) (hj : jn < len) (ho : o + jn * m = o') : QS P C E S (.indexAddr s x y) ty (.pointer (some ⟨g, o', none⟩)) :=
  QS_index (j := jn) hx (by rw [hy, hn.eq]) hj ho
theorem QS_indexAL [hs : ArrayOf P s n e m] {k : IntKind} {j : Int} {jn o' : Nat} (hx : evo E x = some (.pointer (some ⟨g, o, none⟩))) (hy : evo E y = some (.int k j)) (hn : IntLit j jn) (hj : jn < n) (ho : o + jn * m = o') : QS P C E S (.indexAddr s x y) ty (.pointer (some ⟨g, o', none⟩)) :=
  QS_indexA (j := jn) hx (by rw [hy, hn.eq]) hj ho
theorem QS_len [hs : SliceOf P s e m] {A : Option Addr} (hx : evo E x = some (.slice A len c)) : QS P C E S (.call ⟨.builtin .len, #[x], #[s]⟩) ty (.int .i64 len) :=
  QS.of (fun a w ha _ => by
    have he : P.elem s = e := by simp [Program.elem, hs.und]
    have hr := run_len_slice (P := P) w s ty A len c (by rw [he]; exact hs.und)
    simp [execOp, resolve, invoke, builtin, ha.evo hx, hr, goInt])
theorem QS_lenArray [hs : ArrayOf P s n e m] (hx : evo E x = some v) : QS P C E S (.call ⟨.builtin .len, #[x], #[s]⟩) ty (.int .i64 n) :=
  QS.of (fun a w ha _ => by
    have hr : (Builtin.len_ #[s] ty #[v]).run P w = .ok (goInt n) w := by
      simp [Builtin.len_, run_underlying hs.und]
    simp [execOp, resolve, invoke, builtin, ha.evo hx, hr, goInt])

/-! Loads and stores -/
/-- the load yields the value -/
def Lds (P : Program) (C : Ctx) (S : List Ent) (t : Nat) (ad : Addr) (v : Value) : Prop := ∀ w, Mem C w S → (loadVar t ad).run P w = .ok v w
theorem QS_load {ad : Addr} (hx : evo E x = some (.pointer (some ad))) (hl : Lds P C S s ad v) : QS P C E S (.load s x) ty (v) :=
  QS.of (fun a w ha hw => by simp [execOp, ha.evo hx, Instr.loadAt, Instr.sureAddr, hl w hw])
theorem Lds.one [hs : OneCell P s] {ad : Addr} (h : ∀ w, Mem C w S → w.cell? ad = some v) : Lds P C S s ad v := fun w hw => by
  simp [loadVar, hs.agg w, Sem.run, load, h w hw]
theorem Lds.agg [hs : AggOf P s m] {cs : List Value} (hlen : cs.length = m) (h : ∀ w, Mem C w S → ∀ j u, cs[j]? = some u → w.cell? ⟨g, o + j, none⟩ = some u) : Lds P C S s ⟨g, o, none⟩ (.agg cs.toArray) := fun w hw => by
  have := run_loadCells_list (P := P) (w := w) ⟨g, o, none⟩ cs (fun j u hu => by rw [add_mk]; exact h w hw j u hu)
  simp [loadVar, hs.agg w, hs.size w, ← hlen, this]
end
end
end Go.Proofs.Ytppicbdaijiifaa
