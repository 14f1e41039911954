/- Lemmas for the walks (Row, Ifc, Between, Hist1, Obj1, Hist2). No condition. -/
import Derived.Test.YtiimjppceobkfaaG05
import Derived.Test.YtiimjppceobkfaaRows
import Derived.Test.YtiimjppceobkfaaG01
import Derived.Test.YtiimjppceobkfaaG04
set_option linter.unusedSimpArgs false
set_option linter.unusedVariables false
set_option linter.unusedSectionVars false
set_option linter.unnecessarySimpa false
namespace Go.Proofs.Ytiimjppceobkfaa
open Go.RowKit

theorem TL_fact {P : Program} {C : Ctx} {Q : Exit → Act → World → Prop} {E : Slots} {S : List Ent} {l rest : List Oper} {p : Prop} (hS : ∀ w, Mem C w S → p) (h : p → TL P C l Q rest E S) : TL P C l Q rest E S :=
  ⟨fun a w ha hw => (h (hS w hw)).run a w ha hw⟩
def hd0 : Hd := ⟨none, 0, 0⟩
theorem All2.set {α β : Type} {R : α → β → Prop} {a : α} {b : β} (h : R a b) : ∀ {l : List α} {m : List β} (j : Nat), All2 R l m → All2 R (l.set j a) (m.set j b)
  | _, _, _, .nil => by simpa using All2.nil
  | _, _, 0, .cons _ t => .cons h t
  | _, _, j + 1, .cons h' t => .cons h' (All2.set h j t)
theorem pairwise_set {α : Type} {R : α → α → Prop} {a : α} : ∀ {l : List α} (j : Nat), l.Pairwise R → (∀ x ∈ l, R a x) → (∀ x ∈ l, R x a) → (l.set j a).Pairwise R
  | [], _, _, _, _ => by simp
  | x :: l, 0, h, h1, _ => by
    rw [List.set_cons_zero, List.pairwise_cons]
    exact ⟨fun y hy => h1 y (by simp [hy]), (List.pairwise_cons.1 h).2⟩
  | x :: l, j + 1, h, h1, h2 => by
    rw [List.set_cons_succ, List.pairwise_cons]
    obtain ⟨q1, q2⟩ := List.pairwise_cons.1 h
    refine ⟨fun y hy => ?_, pairwise_set j q2 (fun y hy => h1 y (by simp [hy])) (fun y hy => h2 y (by simp [hy]))⟩
    rcases List.mem_or_eq_of_mem_set hy with hy | rfl
    · exact q1 y hy
    · exact h2 x (by simp)
section
variable {C : Ctx} {w : World} {S S1 S' : List Ent} {α : Type} {enc : α → List Value} {M e : Nat} {hs : List Hd} {rows : List (List α)} {l : List α} {A : Option Addr} {c j : Nat}
theorem hd0_blk : hd0.v.ownBlock = none := rfl
theorem set_has {k : Nat} {h : Hd} (hm : ∃ g ∈ hs.set j h, g.v.ownBlock = some k) : h.v.ownBlock = some k ∨ ∃ i, i ≠ j ∧ ∃ hi : i < hs.length, hs[i].v.ownBlock = some k := by
  obtain ⟨g, hg, hk⟩ := hm
  obtain ⟨i, hi, rfl⟩ := List.mem_iff_getElem.1 hg
  rw [List.length_set] at hi
  by_cases e : i = j
  · subst e
    rw [List.getElem_set_self] at hk; exact .inl hk
  · rw [List.getElem_set_ne (fun e' => e e'.symm)] at hk
    exact .inr ⟨i, e, hi, hk⟩
/-- a row is taken out -/
theorem Mem.takeRow (hj : j < hs.length) (hj' : j < rows.length) (hu : Upd S (entInner enc M e hs rows) (entInner enc M e (hs.set j hd0) (rows.set j [])) S') (hw : Mem C w S) : Mem C w (entOwn enc M e hs[j].a hs[j].c rows[j] :: S') := by
  obtain ⟨X, Y, rfl, rfl⟩ := hu.form
  have hap := hw.apart
  rw [List.pairwise_append, List.pairwise_cons] at hap
  obtain ⟨hX, ⟨hY1, hY⟩, hXY⟩ := hap
  have hin := hw.holds (entInner enc M e hs rows) (by simp)
  have hrow := forall2_at hin.1.1 j hj hj'
  have hv : hs[j].v = .slice hs[j].a rows[j].length hs[j].c := by rw [← hrow.1]; rfl
  have hsub : ∀ k, (entInner enc M e (hs.set j hd0) (rows.set j [])).has k → (entInner enc M e hs rows).has k ∧ hs[j].v.ownBlock ≠ some k := by
    intro k hk
    rcases set_has hk with h | ⟨i, hi, hil, h⟩
    · rw [hd0_blk] at h; cases h
    · refine ⟨⟨_, List.getElem_mem hil, h⟩, fun hk' => ?_⟩
      have hp := List.pairwise_iff_getElem.1 hin.1.2
      rcases Nat.lt_or_gt_of_ne hi with hlt | hlt
      · exact hp i j hil hj hlt k h hk'
      · exact hp j i hj hil hlt k hk' h
  have hown : ∀ k, (entOwn enc M e hs[j].a hs[j].c rows[j]).has k → (entInner enc M e hs rows).has k := by
    intro k hk
    refine ⟨hs[j], List.getElem_mem hj, ?_⟩
    rw [hv]; exact hk
  have hnew : Inner enc M e w (hs.set j hd0) (rows.set j []) := by
    refine ⟨All2.set ⟨rfl, Own.nil w 0⟩ j hin.1.1, pairwise_set j hin.1.2 (fun x _ k hk => ?_) (fun x _ k _ => ?_)⟩
    · rw [hd0_blk] at hk; cases hk
    · rw [hd0_blk]; simp
  refine ⟨hw.keeps, fun f hf => ?_, ?_⟩
  · rcases List.mem_cons.1 hf with rfl | hf
    · refine ⟨?_, fun k hk => hin.2 k (hown k hk)⟩
      show Own enc M e w 0 (.slice hs[j].a rows[j].length hs[j].c) rows[j]
      rw [← hv]; exact hrow.2
    · rcases List.mem_append.1 hf with hf | hf
      · exact hw.holds f (by simp [hf])
      · rcases List.mem_cons.1 hf with rfl | hf
        · exact ⟨hnew, fun k hk => hin.2 k (hsub k hk).1⟩
        · exact hw.holds f (by simp [hf])
  · refine List.pairwise_cons.2 ⟨fun f hf k hk => ?_, ?_⟩
    · rcases List.mem_append.1 hf with hf | hf
      · exact fun hk' => hXY f hf (entInner enc M e hs rows) List.mem_cons_self k hk' (hown k hk)
      · rcases List.mem_cons.1 hf with rfl | hf
        · intro hk'
          refine (hsub k hk').2 ?_
          rw [hv]; exact hk
        · exact hY1 f hf k (hown k hk)
    · rw [List.pairwise_append, List.pairwise_cons]
      refine ⟨hX, ⟨fun f hf k hk => hY1 f hf k (hsub k hk).1, hY⟩, fun f hf g hg k hk => ?_⟩
      rcases List.mem_cons.1 hg with rfl | hg
      · exact fun hk' => hXY f hf (entInner enc M e hs rows) List.mem_cons_self k hk (hsub k hk').1
      · exact hXY f hf g (by simp [hg]) k hk
/-- a row is put in the place of another one -/
theorem Mem.putRow (hp : Pick S (entOwn enc M e A c l) S1) (hu : Upd S1 (entInner enc M e hs rows) (entInner enc M e (hs.set j ⟨A, l.length, c⟩) (rows.set j l)) S') (hw : Mem C w S) : Mem C w S' := by
  have h1 := hw.pick hp
  obtain ⟨X, Y, rfl, rfl⟩ := hu.form
  have hap := List.pairwise_cons.1 h1.apart
  have hap2 := hap.2
  rw [List.pairwise_append, List.pairwise_cons] at hap2
  obtain ⟨hX, ⟨hY1, hY⟩, hXY⟩ := hap2
  have ho := h1.holds _ List.mem_cons_self
  have hin := h1.holds (entInner enc M e hs rows) (by simp)
  have hfar : ∀ k, (∃ h ∈ hs, h.v.ownBlock = some k) → (Value.slice A l.length c).ownBlock ≠ some k := fun k hk hk' => hap.1 (entInner enc M e hs rows) (by simp) k hk' hk
  have hhas : ∀ k, (entInner enc M e (hs.set j ⟨A, l.length, c⟩) (rows.set j l)).has k → (entInner enc M e hs rows).has k ∨ (entOwn enc M e A c l).has k := by
    intro k hk
    rcases set_has hk with h | ⟨i, _, hil, h⟩
    · exact .inr h
    · exact .inl ⟨_, List.getElem_mem hil, h⟩
  have hnew : Inner enc M e w (hs.set j ⟨A, l.length, c⟩) (rows.set j l) := by
    refine ⟨All2.set ⟨rfl, ho.1⟩ j hin.1.1, pairwise_set j hin.1.2 (fun x hx k hk hk' => hfar k ⟨x, hx, hk'⟩ hk) (fun x hx k hk => hfar k ⟨x, hx, hk⟩)⟩
  refine ⟨h1.keeps, fun f hf => ?_, ?_⟩
  · rcases List.mem_append.1 hf with hf | hf
    · exact h1.holds f (by simp [hf])
    · rcases List.mem_cons.1 hf with rfl | hf
      · refine ⟨hnew, fun k hk => ?_⟩
        rcases hhas k hk with h | h
        · exact hin.2 k h
        · exact ho.2 k h
      · exact h1.holds f (by simp [hf])
  · rw [List.pairwise_append, List.pairwise_cons]
    refine ⟨hX, ⟨fun f hf k hk => ?_, hY⟩, fun f hf g hg k hk => ?_⟩
    · rcases hhas k hk with h | h
      · exact hY1 f hf k h
      · exact hap.1 f (by simp [hf]) k h
    · rcases List.mem_cons.1 hg with rfl | hg
      · intro hk'
        rcases hhas k hk' with h | h
        · exact hXY f hf _ List.mem_cons_self k hk h
        · exact hap.1 f (by simp [hf]) k h hk
      · exact hXY f hf g (by simp [hg]) k hk
/-- rows that all are empty -/
theorem Mem.emptyRows (enc : α → List Value) (M e n : Nat) (hw : Mem C w S) : Mem C w (entInner enc M e (List.replicate n hd0) (List.replicate n []) :: S) := by
  have hno : ∀ k, ¬ (entInner enc M e (List.replicate n hd0) (List.replicate n [])).has k := by
    rintro k ⟨h, hm, hk⟩
    rw [(List.mem_replicate.1 hm).2, hd0_blk] at hk; cases hk
  refine hw.fresh (Below.refl _ _) (fun g hg => (hno g hg).elim) ⟨?_, ?_⟩
  · induction n with
    | zero => exact .nil
    | succ n ih => exact .cons ⟨rfl, Own.nil w 0⟩ (ih fun k hk => hno k (by obtain ⟨h, hm, hk⟩ := hk; exact ⟨h, by rw [List.mem_replicate] at hm ⊢; exact ⟨by omega, hm.2⟩, hk⟩))
  · rw [List.pairwise_replicate]
    right
    intro k hk; rw [hd0_blk] at hk; cases hk
theorem Mem.newBlkF {b : Nat} {R : List Ent} (hw : Mem C w (S1 ++ R)) (hF : b ∉ C.F) (hb : b < C.w0.heap.size) : b ∉ blks S1 := fun hm => by
  obtain ⟨e, he, hg⟩ := mem_blks.1 hm
  rcases ((hw.holds e (by simp [he])).2 b hg).2 with h | h
  · exact hF h
  · omega
theorem Mem.rdAwayF {A : Option Addr} {ls : List α} (hw : Mem C w S) (h : RdE enc M C.w0 A ls) (hF : ∀ b o, A = some ⟨b, o, Option.none⟩ → b ∉ C.F) : RdE enc M w A ls := by
  intro j x hj
  obtain ⟨b, o, h1, h2, h3⟩ := h j x hj
  exact ⟨b, o, h1, Nat.lt_of_lt_of_le h2 hw.keeps.size, fun k v hk => hw.old h2 (hF b o h1) (h3 k v hk)⟩
/-- the last item is left off -/
theorem Mem.ownLast {g et : Nat} {ls : List α} {x : α} (hu : Upd S (entOwn enc M et (some ⟨g, 0, Option.none⟩) c (ls ++ [x])) (entOwn enc M et (some ⟨g, 0, Option.none⟩) c ls) S') (hM : ∀ x, (enc x).length = M) (hw : Mem C w S) : Mem C w S' := by
  have ho := hw.holds _ hu.mem
  have h : Own enc M et w 0 (.slice (some ⟨g, 0, Option.none⟩) (ls ++ [x]).length c) (ls ++ [x]) := ho.1
  refine hw.upd hu (Keeps.refl [] w) (by simp) (fun k hk => ?_) ?_
  · have : some g = some k := hk
    cases this
    exact ⟨(ho.2 g rfl).1, .inl rfl⟩
  · obtain ⟨g', cap, cur, hv, hbb, hg, hnc, hcm, hcs, htake⟩ := h.2.resolve_left (by simp)
    simp only [Value.slice.injEq, Option.some.injEq, Addr.mk.injEq, and_true, true_and] at hv
    obtain ⟨rfl, rfl⟩ := hv
    rw [List.length_append, List.length_singleton] at hnc
    refine ⟨flat_len hM _, .inr ⟨g, c, cur, rfl, hbb, hg, by omega, hcm, hcs, ?_⟩⟩
    have e1 : (ls ++ [x]).flatMap enc = ls.flatMap enc ++ enc x := by rw [List.flatMap_append]; simp
    rw [e1, List.length_append, List.length_singleton] at htake
    have h2 := congrArg (List.take (ls.length * M)) htake
    rw [List.take_take, List.take_append_of_le_length (by rw [flat_len hM]; omega)] at h2
    rw [List.take_of_length_le (l := ls.flatMap enc) (by rw [flat_len hM]; omega)] at h2
    rw [← h2, Nat.min_eq_left]
    rw [Nat.add_mul]; omega
end
end Go.Proofs.Ytiimjppceobkfaa

namespace Go.Proofs.Ytiimjppceobkfaa
open Go.RowKit

/-- a type that is no interface -/
class PlainT (P : Program) (t : Nat) : Prop where
  make : ∀ (v : Value) (w : World), (Instr.makeInterface t v).run P w = .ok (.iface t v) w
/-- an interface type -/
class IfaceT (P : Program) (t : Nat) : Prop where
  und : ∃ ms, P.underlying t = some (.interface ms)
theorem plainT_of {P : Program} {t : Nat} {fs : Array Field} (h : P.underlying t = some (.struct fs)) : PlainT P t := ⟨fun v w => by simp [Instr.makeInterface, run_underlying h]⟩
/-- a method of a type, called by value -/
class MethodOf (P : Program) (t : Nat) (name : String) (v : Value) (f : outParam Nat) (r : outParam Value) : Prop where
  run : ∀ w, (method (P.types.size + Made.depth) t v name).run P w = .ok (f, r) w
section
variable {P : Program} {C : Ctx} {Q : Exit → Act → World → Prop} {E : Slots} {S S1 R S2 : List Ent}
variable {d ty ty2 ty3 t : Nat} {ps : String} {af : Array Edge} {g0 : Option (Nat × Bool)} {f : Nat} {x y : Operand} {v r : Value}
theorem QS_makeInterface [hs : PlainT P t] (hx : evo E x = some v) : QS P C E S (.makeInterface t x) ty (.iface t v) :=
  QS.of (fun a w ha _ => by
    have := hs.make v w
    simp [execOp, ha.evo hx, this])
theorem run_equal_ifaceNil [h : IfaceT P t] (u : Nat) (v : Value) (w : World) : (Op.equal t (.iface u v) .nilIface).run P w = .ok false w := by
  obtain ⟨ms, h⟩ := h.und
  unfold Op.equal Op.maxDepth Op.equalIn
  simp [run_underlying h]
theorem run_equal_nilNil [h : IfaceT P t] (w : World) : (Op.equal t .nilIface .nilIface).run P w = .ok true w := by
  obtain ⟨ms, h⟩ := h.und
  unfold Op.equal Op.maxDepth Op.equalIn
  simp [run_underlying h]
theorem QS_ifaceSome [IfaceT P t] {u : Nat} (hx : evo E x = some (.iface u v)) (hy : evo E y = some .nilIface) : QS P C E S (.binOp .eql t x y ty3) ty (.bool false) :=
  QS.of (fun a w ha _ => by
    unfold execOp
    simp only [ha.evo hx, ha.evo hy]
    have hg : (eqGuard .eql t x y (.iface u v) .nilIface).run P w = .ok () w := rfl
    have hb : (binOp .eql t (.iface u v) .nilIface).run P w = .ok (.bool false) w := by
      unfold binOp; simp [run_equal_ifaceNil]
    simp only [Sem.run_bind, hg, Result.andThen_ok, hb]; rfl)
theorem QS_ifaceNil [IfaceT P t] {z : Value} (hx : evo E x = some .nilIface) (hz : z = .nilIface) : QS P C E S (.binOp .eql t x (.const z) ty3) ty (.bool true) :=
  QS.of (fun a w ha _ => by
    subst hz
    unfold execOp
    simp only [ha.evo hx]
    have hg : (eqGuard .eql t x (.const .nilIface) .nilIface .nilIface).run P w = .ok () w := by
      unfold eqGuard
      cases x <;> rfl
    have hb : (binOp .eql t .nilIface .nilIface).run P w = .ok (.bool true) w := by
      unfold binOp; simp [run_equal_nilNil]
    simp only [Act.eval, Sem.run_bind, hg, Result.andThen_ok, hb]; rfl)
/-- a method taken as a value: the look at its receiver -/
theorem QS_nilCheckM {u : Nat} {name : String} {cs : Array Value} (hx : evo E x = some (.func (.method name) #[.iface u v] cs)) (hm : ∀ w, (nilAhead (P.types.size + Made.depth) u v name).run P w = .ok (some false) w) : QS P C E S (.nilCheck x) ty (.func (.method name) #[.iface u v] cs) :=
  QS.of (fun a w ha _ => by
    have hp : (program).run P w = .ok P w := rfl
    simp [execOp, ha.evo hx, hp, hm w])
theorem run_invoke [hf : IsFn P f] {u : Nat} {name : String} {xs : List Operand} {vs : List Value} {ats : Array TypeId} (hv : evo E x = some (.iface u v)) (hm : MethodOf P u name v f r) (hx : evs E xs = some vs) {a : Act} {w : World} (ha : Env C.n a E) :
    (execOp a.eval ⟨some d, .call ⟨.invoke x name, xs.toArray, ats⟩, ty, ps, af, g0⟩).run P w = .ok (.enter f (r :: vs).toArray) w := by
  have h1 := ha.evo hv
  have h2 := evs_toArray ha hx
  have hp : (program).run P w = .ok P w := rfl
  have h3 := hf.run (r :: vs).toArray w
  have e1 : (#[Value.iface u v] ++ vs.toArray).extract 1 (#[Value.iface u v] ++ vs.toArray).size = vs.toArray := by simp
  have e2 : (#[Value.iface u v] ++ vs.toArray)[0]? = some (.iface u v) := by simp
  have e3 : #[r] ++ vs.toArray = (r :: vs).toArray := by simp
  simp only [execOp, resolve, h1, h2, Sem.run_bind, Sem.run_pure, Result.andThen_ok, invoke, e2, e1, callMethod, hp, hm.run w, e3, h3]
/-- a call of a method that leaves all alone -/
theorem ES_invokeV [hf : IsFn P f] {u : Nat} {name : String} {xs : List Operand} {vs : List Value} {ats : Array TypeId} {z : Value} (hv : evo E x = some (.iface u v)) (hm : MethodOf P u name v f r) (hx : evs E xs = some vs)
    (hc : ∀ w, Mem C w S → Calls P f (r :: vs).toArray w fun e w' => e = .returned z ∧ Below w.heap.size w w') (hd : Nat.ble (d + 1) C.n = true) :
    ES P C E S ⟨some d, .call ⟨.invoke x name, xs.toArray, ats⟩, ty, ps, af, g0⟩ (fun E' S' => E' = (d, z) :: E ∧ S' = S) := by
  refine (ES_enter (fun u T => u = z ∧ T = S) (fun a w ha => run_invoke hv hm hx ha) (fun w hw => (hc w hw).mono fun e w' ⟨he, hb⟩ => ⟨z, _, he, hw.below hb, rfl, rfl⟩) hd).weak (by rintro _ _ ⟨_, ⟨rfl, rfl⟩, rfl⟩; exact ⟨rfl, rfl⟩)
/-- a call of a method that turns what it is handed -/
theorem ES_invokeX [hf : IsFn P f] {X : Type} {u : Nat} {name : String} {xs : List Operand} {vs : List Value} {ats : Array TypeId} (z : X → Value) (S1' : X → List Ent) {S2 : X → List Ent} (hv : evo E x = some (.iface u v)) (hm : MethodOf P u name v f r) (hx : evs E xs = some vs)
    (hS : Pull S S1 R) (hA : ∀ x, AppL (S1' x) R (S2 x))
    (hc : ∀ w, Mem C w (S1 ++ R) → Calls P f (r :: vs).toArray w fun e w' => ∃ x, e = .returned (z x) ∧ Mem ⟨0, blks S1, w⟩ w' (S1' x)) (hd : Nat.ble (d + 1) C.n = true) :
    ES P C E S ⟨some d, .call ⟨.invoke x name, xs.toArray, ats⟩, ty, ps, af, g0⟩ (fun E' S' => ∃ x, E' = (d, z x) :: E ∧ S' = S2 x) :=
  (ES_enter (fun u T => ∃ x, u = z x ∧ T = S2 x) (fun a w ha => run_invoke hv hm hx ha) (fun w hw => (hc w (hw.pull hS)).mono fun e w' ⟨x, he, hb⟩ => ⟨z x, _, he, (hw.pull hS).frame hb, x, rfl, (hA x).eq⟩) hd).weak
    (by rintro _ _ ⟨_, ⟨x, rfl, rfl⟩, rfl⟩; exact ⟨x, rfl, rfl⟩)
/-- a call that turns what it is handed, to something of some shape -/
theorem ES_callX [hf : IsFn P f] {X : Type} {xs : List Operand} {vs : List Value} {ats : Array TypeId} (z : X → Value) (S1' : X → List Ent) {S2 : X → List Ent} (hx : evs E xs = some vs)
    (hS : Pull S S1 R) (hA : ∀ x, AppL (S1' x) R (S2 x))
    (hc : ∀ w, Mem C w (S1 ++ R) → Calls P f vs.toArray w fun e w' => ∃ x, e = .returned (z x) ∧ Mem ⟨0, blks S1, w⟩ w' (S1' x)) (hd : Nat.ble (d + 1) C.n = true) :
    ES P C E S ⟨some d, .call ⟨.value (.func f), xs.toArray, ats⟩, ty, ps, af, g0⟩ (fun E' S' => ∃ x, E' = (d, z x) :: E ∧ S' = S2 x) :=
  (ES_call (fun u T => ∃ x, u = z x ∧ T = S2 x) hx (fun w hw => (hc w (hw.pull hS)).mono fun e w' ⟨x, he, hb⟩ => ⟨z x, _, he, (hw.pull hS).frame hb, x, rfl, (hA x).eq⟩) hd).weak
    (by rintro _ _ ⟨_, ⟨x, rfl, rfl⟩, rfl⟩; exact ⟨x, rfl, rfl⟩)
end
/-! Structs without a cell -/
/-- a field without a cell, of a struct without one -/
class FieldZ (P : Program) (s f : Nat) : Prop where
  run : ∃ (fs : Array Field) (fd : Field), P.underlying s = some (.struct fs) ∧ fs[f]? = some fd ∧ fd.offset = 0 ∧ fd.byteOffset = 0 ∧ ∀ w, (sizeOf fd.type).run P w = .ok 0 w
class CellsZ (P : Program) (t : Nat) : Prop where
  z : P.cellsOf t = 0
theorem run_byteOf0 {P : Program} {g t o : Nat} [hz : CellsZ P t] {w : World} {cs : Array Value} (hb : Blk w g t cs) : (byteOf ⟨g, o, none⟩).run P w = .ok 0 w := by
  unfold Blk at hb
  have h1 : w.shape? g = some (t, cs.size) := by simp [World.shape?, hb]
  have hp : (program).run P w = .ok P w := rfl
  have hv : (noView ⟨g, o, none⟩).run P w = .ok () w := by simp [noView, viewAt, h1]
  simp [byteOf, hp, hv, h1, hz.z]
section
variable {P : Program} {C : Ctx} {E : Slots} {S : List Ent} {ty g t s f : Nat} {x : Operand} {cs : Array Value}
theorem QS_fieldZ [hs : FieldZ P s f] [hz : CellsZ P s] (hx : evo E x = some (.pointer (some ⟨g, 0, none⟩))) (hm : entBlk g s cs ∈ S) : QS P C E S (.fieldAddr s x f) ty (.pointer (some ⟨g, 0, none⟩)) :=
  QS.of (fun a w ha hw => by
    obtain ⟨fs, fd, h1, h2, h3, h4, h5⟩ := hs.run
    have hb : Blk w g s cs := (hw.holds _ hm).1
    have := run_byteOf0 (P := P) (o := 0) hb
    simp [execOp, ha.evo hx, Instr.fieldAt, run_underlying h1, h2, Instr.sureAddr, fieldPlace, h5 w, partAt, this, h3, h4])
theorem Lds.zero [hs : AggOf P s 0] (ad : Addr) : Lds P C S s ad (.agg #[]) := fun w hw => by
  have : (loadCells ad 0).run P w = .ok #[] w := rfl
  simp [loadVar, hs.agg w, hs.size w, this]
end
end Go.Proofs.Ytiimjppceobkfaa

namespace Go.Proofs.Ytiimjppceobkfaa
open Go.RowKit
theorem between_any (a b c : Int) (w : World) :
    Calls Try.prog 33 #[.int .i64 a, .int .i64 b, .int .i64 c] w fun e w' => e = .returned (.bool (decide (b ≤ a) && decide (a ≤ c))) ∧ w = w' := by
  by_cases h1 : b ≤ a
  · by_cases h2 : a ≤ c
    · go_enter Try.func33, Try.ntmps33
      go_wp2
      go_ret
      simp [h1, h2]
    · go_enter Try.func33, Try.ntmps33
      go_wp2
      go_ret
      simp; omega
  · have h1' : decide (b ≤ a) = false := by simpa using h1
    go_enter Try.func33, Try.ntmps33
    go_wp2
    go_ret
    simp

end Go.Proofs.Ytiimjppceobkfaa

namespace Go.Proofs.Ytiimjppceobkfaa
open Go.RowKit

def typeF (k : Int) : Int := if k = 1 ∨ k = 2 then 1 else if k = 3 ∨ k = 4 then 2 else if k = 5 ∨ k = 6 then 3 else if k = 7 ∨ k = 8 ∨ k = 9 then 4 else if k = 10 then 5 else 0
def fitsB (t k : Int) : Bool := decide (t ≠ 0 ∧ typeF k = t)
def argB (k n : Int) : Bool := if k = 2 ∨ k = 4 ∨ k = 6 ∨ k = 10 then decide (n = 0) else decide (1 ≤ n ∧ n ≤ 1000)
def resB (k n : Int) : Bool := if k = 2 ∨ k = 10 then decide (0 ≤ n ∧ n ≤ 1000) else if k = 4 ∨ k = 6 then decide (n = -1 ∨ (1 ≤ n ∧ n ≤ 1000)) else if k = 7 ∨ k = 8 ∨ k = 9 then decide (n = 0 ∨ n = 1) else decide (n = 0)
def ansB (k n : Int) : Bool := if k = 2 ∨ k = 10 then decide (0 ≤ n ∧ n ≤ 1000) else if k = 4 ∨ k = 6 then decide (n = -1 ∨ (1 ≤ n ∧ n ≤ 1000)) else if 7 ≤ k then decide (0 ≤ n ∧ n ≤ 1) else decide (n = 0)
def kindsL (t : Int) : List Int := if t = 1 then [1, 2] else if t = 2 then [3, 4] else if t = 3 then [5, 6] else if t = 4 then [7, 8, 9] else if t = 5 then [10] else []

theorem typeF_kinds (t k : Int) : fitsB t k = (kindsL t).contains k := by
  rw [Bool.eq_iff_iff]
  unfold fitsB typeF kindsL
  simp only [decide_eq_true_eq]
  repeat' split
  all_goals (simp only [List.contains_cons, List.contains_nil, Bool.or_eq_true, beq_iff_eq, Bool.false_eq_true, or_false, iff_false, not_and]; omega)
theorem typeF_pos {k t : Int} (h : fitsB t k = true) : 1 ≤ k ∧ k ≤ 10 := by
  unfold fitsB typeF at h
  simp only [decide_eq_true_eq] at h
  obtain ⟨h0, h⟩ := h
  repeat' split at h
  all_goals omega
theorem resB_ansB {k n : Int} (h1 : 1 ≤ k) (h2 : k ≤ 10) : resB k n = ansB k n := by
  unfold resB ansB
  repeat' split
  all_goals first | rfl | omega | (apply decide_eq_decide.2; omega)

theorem typeOf_any (k : Int) (w : World) : Calls Try.prog 151 #[.int .i64 k] w fun e w' => e = .returned (.int .i64 (typeF k)) ∧ w = w' := by
  go_enter Try.func151, Try.ntmps151
  go_wp2
  all_goals
    go_ret
    refine ⟨ret_int ?_, rfl⟩
    simp only [beq_iff_eq, beq_eq_false_iff_ne] at *
    unfold typeF
    repeat' split
    all_goals omega

theorem fits_any (t k : Int) (w : World) : Calls Try.prog 97 #[.int .i64 t, .int .i64 k] w fun e w' => e = .returned (.bool (fitsB t k)) ∧ w = w' := by
  by_cases ht : t = 0
  · subst ht
    go_enter Try.func97, Try.ntmps97
    go_wp2
    go_ret
    simp [fitsB]
  · have ht' : (t != 0) = true := by simpa using ht
    go_enter Try.func97, Try.ntmps97
    go_wp2_with (go_at_call 151; refine (typeOf_any _ _).mono ?_; rintro e w' ⟨rfl, rfl⟩)
    go_ret
    exact ⟨ret_bool (by rw [Bool.eq_iff_iff]; simp [fitsB, ht]), rfl⟩

theorem argument_any (k n : Int) (w : World) : Calls Try.prog 98 #[.int .i64 k, .int .i64 n] w fun e w' => e = .returned (.bool (argB k n)) ∧ w = w' := by
  go_enter Try.func98, Try.ntmps98
  go_wp2
  all_goals
    go_ret
    refine ⟨ret_bool ?_, rfl⟩
    try simp only [beq_iff_eq, beq_eq_false_iff_ne] at *
    rw [Bool.eq_iff_iff]
    unfold argB
    repeat' split
    all_goals first | (simp only [Bool.not_eq_true', Bool.not_eq_false', decide_eq_true_eq, decide_eq_false_iff_not, Bool.and_eq_true, Bool.or_eq_true, Bool.or_eq_false_iff, Bool.and_eq_false_iff, beq_iff_eq, Bool.false_eq_true, false_iff, iff_false, true_iff, iff_true] at *; done) | (simp only [Bool.not_eq_true', Bool.not_eq_false', decide_eq_true_eq, decide_eq_false_iff_not, Bool.and_eq_true, Bool.or_eq_true, Bool.or_eq_false_iff, Bool.and_eq_false_iff, beq_iff_eq, Bool.false_eq_true, false_iff, iff_false, true_iff, iff_true] at *; omega)

theorem result_any (k n : Int) (w : World) : Calls Try.prog 212 #[.int .i64 k, .int .i64 n] w fun e w' => e = .returned (.bool (resB k n)) ∧ w = w' := by
  go_enter Try.func212, Try.ntmps212
  go_wp2
  all_goals
    go_ret
    refine ⟨ret_bool ?_, rfl⟩
    try simp only [beq_iff_eq, beq_eq_false_iff_ne] at *
    rw [Bool.eq_iff_iff]
    unfold resB
    repeat' split
    all_goals first | (simp only [Bool.not_eq_true', Bool.not_eq_false', decide_eq_true_eq, decide_eq_false_iff_not, Bool.and_eq_true, Bool.or_eq_true, Bool.or_eq_false_iff, Bool.and_eq_false_iff, beq_iff_eq, Bool.false_eq_true, false_iff, iff_false, true_iff, iff_true] at *; done) | (simp only [Bool.not_eq_true', Bool.not_eq_false', decide_eq_true_eq, decide_eq_false_iff_not, Bool.and_eq_true, Bool.or_eq_true, Bool.or_eq_false_iff, Bool.and_eq_false_iff, beq_iff_eq, Bool.false_eq_true, false_iff, iff_false, true_iff, iff_true] at *; omega)

theorem answers_any (k n : Int) (w : World) : Calls Try.prog 105 #[.int .i64 k, .int .i64 n] w fun e w' => e = .returned (.bool (ansB k n)) ∧ w = w' := by
  go_enter Try.func105, Try.ntmps105
  go_wp2_with (go_at_call 33; refine (between_any _ _ _ _).mono ?_; rintro e w' ⟨rfl, rfl⟩)
  all_goals
    go_ret
    refine ⟨ret_bool ?_, rfl⟩
    try simp only [beq_iff_eq, beq_eq_false_iff_ne] at *
    rw [Bool.eq_iff_iff]
    unfold ansB
    repeat' split
    all_goals first | (simp only [Bool.not_eq_true', Bool.not_eq_false', decide_eq_true_eq, decide_eq_false_iff_not, Bool.and_eq_true, Bool.or_eq_true, Bool.or_eq_false_iff, Bool.and_eq_false_iff, beq_iff_eq, Bool.false_eq_true, false_iff, iff_false, true_iff, iff_true] at *; done) | (simp only [Bool.not_eq_true', Bool.not_eq_false', decide_eq_true_eq, decide_eq_false_iff_not, Bool.and_eq_true, Bool.or_eq_true, Bool.or_eq_false_iff, Bool.and_eq_false_iff, beq_iff_eq, Bool.false_eq_true, false_iff, iff_false, true_iff, iff_true] at *; omega)
end Go.Proofs.Ytiimjppceobkfaa

namespace Go.Proofs.Ytiimjppceobkfaa
/-! Sets as ascending lists -/
def Asc (s : List Int) : Prop := s.Pairwise (· < ·)
def posI (s : List Int) (a : Int) : Nat := (s.takeWhile (fun x => decide (x < a))).length
def setStep (kind a : Int) (st : Int × List Int × Bool) (x : Int) : Int × List Int × Bool :=
  let was := if x = a then 1 else st.1
  let p := if a ≤ x ∧ st.2.2 = false then (st.2.1 ++ [a], true) else (st.2.1, st.2.2)
  (was, if x ≠ a ∨ kind = 9 then p.1 ++ [x] else p.1, p.2)
def setFin (kind a : Int) (st : Int × List Int × Bool) : List Int × Int :=
  (if st.2.2 = false then st.2.1 ++ [a] else st.2.1, if kind = 7 then 1 - st.1 else st.1)
def setR (s : List Int) (kind a : Int) : List Int × Int := setFin kind a (s.foldl (setStep kind a) (0, [], !decide (kind = 7)))
theorem pos_split {s : List Int} (h : Asc s) (a : Int) : (∀ x ∈ s.take (posI s a), x < a) ∧ (∀ x ∈ s.drop (posI s a), a ≤ x) ∧ posI s a ≤ s.length := by
  induction s with
  | nil => simp [posI]
  | cons y s ih =>
    obtain ⟨h1, h2⟩ := List.pairwise_cons.1 h
    obtain ⟨i1, i2, i3⟩ := ih h2
    unfold posI at i1 i2 i3 ⊢
    rw [List.takeWhile_cons]
    by_cases hy : y < a
    · simp only [hy, decide_true, if_true, List.length_cons, List.take_succ_cons, List.drop_succ_cons]
      exact ⟨fun x hx => by rcases List.mem_cons.1 hx with rfl | hx; exact hy; exact i1 x hx, i2, by omega⟩
    · simp only [hy, decide_false, Bool.false_eq_true, if_false, List.length_nil, List.take_zero, List.drop_zero]
      refine ⟨by simp, fun x hx => ?_, by simp⟩
      rcases List.mem_cons.1 hx with rfl | hx
      · omega
      · have := h1 x hx; omega
/-- where it stands is told by what is about it -/
theorem pos_of {s : List Int} {a : Int} {i : Nat} (hi : i ≤ s.length) (h1 : ∀ j (hj : j < s.length), j < i → s[j] < a) (h2 : ∀ j (hj : j < s.length), i ≤ j → a ≤ s[j]) : posI s a = i := by
  induction s generalizing i with
  | nil => simp at hi; subst hi; rfl
  | cons y s ih =>
    unfold posI at ih ⊢
    rw [List.takeWhile_cons]
    cases i with
    | zero =>
      have := h2 0 (by simp) (by omega)
      simp only [List.getElem_cons_zero] at this
      have hy : ¬ y < a := by omega
      simp [hy]
    | succ i =>
      have hy := h1 0 (by simp) (by omega)
      simp only [List.getElem_cons_zero] at hy
      simp only [hy, decide_true, if_true, List.length_cons]
      rw [ih (i := i) (by simpa using hi) (fun j hj hji => by have := h1 (j + 1) (by simpa using hj) (by omega); simpa using this) (fun j hj hji => by have := h2 (j + 1) (by simpa using hj) (by omega); simpa using this)]
theorem fold_low (kind a : Int) : ∀ (l : List Int) (was : Int) (out : List Int) (put : Bool), (∀ x ∈ l, x < a) → l.foldl (setStep kind a) (was, out, put) = (was, out ++ l, put)
  | [], was, out, put, _ => by simp
  | x :: l, was, out, put, h => by
    have hx := h x (by simp)
    rw [List.foldl_cons]
    have e1 : x ≠ a := by omega
    have e2 : ¬ a ≤ x := by omega
    have e : setStep kind a (was, out, put) x = (was, out ++ [x], put) := by simp [setStep, e1, e2]
    rw [e, fold_low kind a l _ _ _ (fun y hy => h y (by simp [hy]))]
    simp
theorem fold_high (kind a : Int) : ∀ (l : List Int) (was : Int) (out : List Int), (∀ x ∈ l, a < x) → l.foldl (setStep kind a) (was, out, true) = (was, out ++ l, true)
  | [], was, out, _ => by simp
  | x :: l, was, out, h => by
    have hx := h x (by simp)
    rw [List.foldl_cons]
    have e1 : x ≠ a := by omega
    have e : setStep kind a (was, out, true) x = (was, out ++ [x], true) := by simp [setStep, e1]
    rw [e, fold_high kind a l _ _ (fun y hy => h y (by simp [hy]))]
    simp
/-- what the code does to a set -/
def setP (s : List Int) (kind a : Int) : List Int × Int :=
  if s.contains a = true then (if kind = 7 then (s, 0) else if kind = 8 then (s.take (posI s a) ++ s.drop (posI s a + 1), 1) else (s, 1))
  else (if kind = 7 then (s.take (posI s a) ++ a :: s.drop (posI s a), 1) else (s, 0))
theorem setP_eq {s : List Int} (h : Asc s) (kind a : Int) (hk : kind = 7 ∨ kind = 8 ∨ kind = 9) : setR s kind a = setP s kind a := by
  obtain ⟨p1, p2, p3⟩ := pos_split h a
  unfold setP
  generalize posI s a = i at *
  have hs : s = s.take i ++ s.drop i := (List.take_append_drop i s).symm
  have hap : (s.drop i).Pairwise (· < ·) := h.sublist (List.drop_sublist i s)
  unfold setR
  conv => lhs; rw [hs, List.foldl_append, fold_low kind a _ _ _ _ p1]
  cases hd : s.drop i with
  | nil =>
    have hn : s.contains a = false := by
      rw [Bool.eq_false_iff]; intro hc
      have hm : a ∈ s := by simpa using hc
      rw [hs, hd, List.append_nil] at hm
      have := p1 a hm; omega
    rw [if_neg (by rw [hn]; simp)]
    have ht : s.take i = s := by rw [hd, List.append_nil] at hs; exact hs.symm
    rcases hk with rfl | rfl | rfl <;> simp [setFin, ht]
  | cons y r =>
    rw [hd] at hap p2 hs
    obtain ⟨q1, q2⟩ := List.pairwise_cons.1 hap
    have hy := p2 y (by simp)
    have hr : ∀ x ∈ r, a < x := fun x hx => by have := q1 x hx; omega
    have hdr : s.drop (i + 1) = r := by rw [← List.drop_drop, hd]; rfl
    by_cases e : y = a
    · subst e
      have hc : s.contains y = true := by rw [hs]; simp
      rw [if_pos hc, hdr]
      have e1 : ∀ (was : Int) (out : List Int) (put : Bool), setStep 7 y (was, out, false) y = (1, out ++ [y], true) := by intro was out put; simp [setStep]
      rcases hk with rfl | rfl | rfl
      · have : setStep 7 y (0, [] ++ s.take i, !decide ((7 : Int) = 7)) y = (1, s.take i ++ [y], true) := by simp [setStep]
        rw [List.foldl_cons, this, fold_high 7 y r _ _ hr]
        simp only [setFin]
        rw [if_neg (by simp), if_pos trivial, if_pos trivial]
        simp only [List.append_assoc, List.singleton_append]
        rw [← hs]; rfl
      · have : setStep 8 y (0, [] ++ s.take i, !decide ((8 : Int) = 7)) y = (1, s.take i, true) := by simp [setStep]
        rw [List.foldl_cons, this, fold_high 8 y r _ _ hr]
        simp [setFin]
      · have : setStep 9 y (0, [] ++ s.take i, !decide ((9 : Int) = 7)) y = (1, s.take i ++ [y], true) := by simp [setStep]
        rw [List.foldl_cons, this, fold_high 9 y r _ _ hr]
        simp only [setFin]
        rw [if_neg (by simp), if_neg (by decide), if_neg (by decide), if_neg (by decide)]
        simp only [List.append_assoc, List.singleton_append]
        rw [← hs]
    · have hya : a < y := by omega
      have hn : s.contains a = false := by
        rw [Bool.eq_false_iff]; intro hc
        have hm : a ∈ s := by simpa using hc
        rw [hs] at hm
        rcases List.mem_append.1 hm with hm | hm
        · have := p1 a hm; omega
        · rcases List.mem_cons.1 hm with rfl | hm
          · omega
          · have := hr a hm; omega
      rw [if_neg (by rw [hn]; simp)]
      have hay : a ≤ y := by omega
      rcases hk with rfl | rfl | rfl
      · have : setStep 7 a (0, [] ++ s.take i, !decide ((7 : Int) = 7)) y = (0, s.take i ++ [a] ++ [y], true) := by simp [setStep, e, hay]
        rw [List.foldl_cons, this, fold_high 7 a r _ _ hr]
        simp [setFin]
      · have : setStep 8 a (0, [] ++ s.take i, !decide ((8 : Int) = 7)) y = (0, s.take i ++ [y], true) := by simp [setStep, e]
        rw [List.foldl_cons, this, fold_high 8 a r _ _ hr]
        simp only [setFin]
        rw [if_neg (by simp), if_neg (by decide), if_neg (by decide)]
        simp only [List.append_assoc, List.singleton_append]
        rw [← hs]
      · have : setStep 9 a (0, [] ++ s.take i, !decide ((9 : Int) = 7)) y = (0, s.take i ++ [y], true) := by simp [setStep, e]
        rw [List.foldl_cons, this, fold_high 9 a r _ _ hr]
        simp only [setFin]
        rw [if_neg (by simp), if_neg (by decide), if_neg (by decide)]
        simp only [List.append_assoc, List.singleton_append]
        rw [← hs]
/-! States -/
def okI (x : Int) : Bool := decide (1 ≤ x) && decide (x ≤ 1000)
def ascB (s : List Int) : Bool := (List.range (s.length - 1)).all fun j => decide (s.getD j 0 < s.getD (j + 1) 0)
theorem ascB_iff (s : List Int) : ascB s = true ↔ ∀ j, j + 1 < s.length → s.getD j 0 < s.getD (j + 1) 0 := by
  unfold ascB
  rw [List.all_eq_true]
  constructor
  · intro h j hj
    simpa using h j (by rw [List.mem_range]; omega)
  · intro h j hj
    rw [List.mem_range] at hj
    simpa using h j (by omega)
theorem asc_of {s : List Int} (h : ascB s = true) : Asc s := by
  rw [ascB_iff] at h
  unfold Asc
  induction s with
  | nil => exact .nil
  | cons x s ih =>
    have hs := ih (fun j hj => by have := h (j + 1) (by simpa using hj); simpa using this)
    refine List.pairwise_cons.2 ⟨fun y hy => ?_, hs⟩
    cases s with
    | nil => simp at hy
    | cons z s =>
      have h0 := h 0 (by simp)
      simp only [List.getD_cons_zero, List.getD_cons_succ] at h0
      rcases List.mem_cons.1 hy with rfl | hy
      · exact h0
      · have := (List.pairwise_cons.1 hs).1 y hy
        omega
def oneB (s : List Int) : Bool := decide (s.length = 1) && (decide (0 ≤ s.getD 0 0) && decide (s.getD 0 0 ≤ 1000))
def validS (typ : Int) (s : List Int) : Bool := if typ = 1 ∨ typ = 5 then oneB s else if typ = 4 then ascB s && s.all okI else s.all okI
def typB (typ : Int) : Bool := decide (1 ≤ typ) && decide (typ ≤ 5)
def chkS (typ : Int) (s : List Int) : Int := if typB typ = true then (if 50 < s.length then 2 else if validS typ s = true then 0 else 3) else 1
/-! Steps -/
/-- what a step answers: the state behind, the answer, what is wrong -/
abbrev Res := List Int × Int × Int
def stepP (typ : Int) (s : List Int) (kind a : Int) : Res :=
  if typ = 1 then (if kind = 1 then ([a], 0, 0) else (s, s.getD 0 0, 0))
  else if typ = 2 then (if kind = 3 then (if s.length = 50 then ([], 0, 2) else (s ++ [a], 0, 0)) else if s.length = 0 then (s, -1, 0) else (s.drop 1, s.getD 0 0, 0))
  else if typ = 3 then (if kind = 5 then (if s.length = 50 then ([], 0, 2) else (s ++ [a], 0, 0)) else if s.length = 0 then (s, -1, 0) else (s.take (s.length - 1), s.getD (s.length - 1) 0, 0))
  else if typ = 4 then (if kind = 7 ∧ s.contains a = false ∧ s.length = 50 then ([], 0, 2) else ((setP s kind a).1, (setP s kind a).2, 0))
  else (if s.getD 0 0 = 1000 then ([], 0, 2) else ([s.getD 0 0 + 1], s.getD 0 0, 0))
def stepR (s : List Int) (kind a : Int) : Res :=
  if (kind = 3 ∨ kind = 5 ∨ kind = 7 ∧ s.contains a = false) ∧ s.length = 50 ∨ kind = 10 ∧ s.getD 0 0 = 1000 then ([], 0, 2)
  else if kind = 1 then ([a], 0, 0)
  else if kind = 2 then (s, s.getD 0 0, 0)
  else if kind = 3 ∨ kind = 5 then (s ++ [a], 0, 0)
  else if kind = 4 ∨ kind = 6 then (if s.length = 0 then (s, -1, 0) else if kind = 4 then (s.drop 1, s.getD 0 0, 0) else (s.take (s.length - 1), s.getD (s.length - 1) 0, 0))
  else if kind = 10 then ([s.getD 0 0 + 1], s.getD 0 0, 0)
  else ((setR s kind a).1, (setR s kind a).2, 0)
/-- a type and a kind that go together -/
def fitB (typ kind : Int) : Prop := typ = 1 ∧ (kind = 1 ∨ kind = 2) ∨ typ = 2 ∧ (kind = 3 ∨ kind = 4) ∨ typ = 3 ∧ (kind = 5 ∨ kind = 6) ∨ typ = 4 ∧ (kind = 7 ∨ kind = 8 ∨ kind = 9) ∨ typ = 5 ∧ kind = 10
theorem step_eq {typ : Int} {s : List Int} {kind a : Int} (hv : validS typ s = true) (hf : fitB typ kind) : stepR s kind a = stepP typ s kind a := by
  rcases hf with ⟨rfl, rfl | rfl⟩ | ⟨rfl, rfl | rfl⟩ | ⟨rfl, rfl | rfl⟩ | ⟨rfl, hk⟩ | ⟨rfl, rfl⟩
  · simp [stepR, stepP]
  · simp [stepR, stepP]
  · simp [stepR, stepP]
  · simp [stepR, stepP]
  · simp [stepR, stepP]
  · simp [stepR, stepP]
  · have hs : Asc s := by
      have : ascB s = true := by
        simp only [validS] at hv
        rw [if_neg (by decide), if_pos trivial, Bool.and_eq_true] at hv
        exact hv.1
      exact asc_of this
    have he := setP_eq hs kind a hk
    rcases hk with rfl | rfl | rfl
    · simp [stepR, stepP, he]
    · simp [stepR, stepP, he]
    · simp [stepR, stepP, he]
  · simp [stepR, stepP]
theorem all_okI_of {s t : List Int} (h : s.all okI = true) (hs : ∀ x ∈ t, x ∈ s) : t.all okI = true := by
  rw [List.all_eq_true] at h ⊢
  exact fun x hx => h x (hs x hx)
theorem ascB_of {s : List Int} (h : Asc s) : ascB s = true := by
  rw [ascB_iff]
  intro j hj
  have h1 : s.getD j 0 = s[j] := by simp [List.getD_eq_getElem?_getD, show j < s.length by omega]
  have h2 : s.getD (j + 1) 0 = s[j + 1] := by simp [List.getD_eq_getElem?_getD, hj]
  rw [h1, h2]
  exact (List.pairwise_iff_getElem.1 h) j (j + 1) (by omega) hj (by omega)
theorem setP_valid {s : List Int} {kind a : Int} (hs : Asc s) (ho : s.all okI = true) (ha : okI a = true) : Asc (setP s kind a).1 ∧ (setP s kind a).1.all okI = true := by
  obtain ⟨p1, p2, p3⟩ := pos_split hs a
  unfold setP
  generalize posI s a = i at *
  have hsp : s = s.take i ++ s.drop i := (List.take_append_drop i s).symm
  split
  · split
    · exact ⟨hs, ho⟩
    · split
      · refine ⟨?_, all_okI_of ho fun x hx => ?_⟩
        · have : (s.take i ++ s.drop (i + 1)).Sublist s := by
            conv => rhs; rw [hsp]
            refine List.Sublist.append (List.Sublist.refl _) ?_
            rw [← List.drop_drop]
            exact List.drop_sublist 1 _
          exact hs.sublist this
        · rcases List.mem_append.1 hx with h | h
          · exact List.mem_of_mem_take h
          · exact List.mem_of_mem_drop h
      · exact ⟨hs, ho⟩
  · rename_i hc
    split
    · refine ⟨?_, ?_⟩
      · unfold Asc at hs ⊢
        rw [hsp, List.pairwise_append] at hs
        obtain ⟨q1, q2, q3⟩ := hs
        rw [List.pairwise_append, List.pairwise_cons]
        refine ⟨q1, ⟨fun y hy => ?_, q2⟩, fun x hx y hy => ?_⟩
        · have h1 := p2 y hy
          have h2 : a ≠ y := fun e => by
            subst e
            exact hc (by simpa using List.mem_of_mem_drop hy)
          omega
        · rcases List.mem_cons.1 hy with rfl | hy
          · exact p1 x hx
          · exact q3 x hx y hy
      · rw [List.all_append, List.all_cons, ha, Bool.true_and, Bool.and_eq_true]
        exact ⟨all_okI_of ho fun x hx => List.mem_of_mem_take hx, all_okI_of ho fun x hx => List.mem_of_mem_drop hx⟩
    · exact ⟨hs, ho⟩
theorem setP_len {s : List Int} {kind a : Int} (h50 : s.length ≤ 50) (hn : ¬ (kind = 7 ∧ s.contains a = false ∧ s.length = 50)) : (setP s kind a).1.length ≤ 50 := by
  unfold setP
  split
  · split
    · exact h50
    · split
      · simp only [List.length_append, List.length_take, List.length_drop]; omega
      · exact h50
  · rename_i hc
    split
    · rename_i hk
      have hc' : s.contains a = false := by simpa using hc
      have : s.length ≠ 50 := fun e => hn ⟨hk, hc', e⟩
      simp only [List.length_append, List.length_take, List.length_cons, List.length_drop]; omega
    · exact h50
theorem chkS_ok {typ : Int} {s : List Int} (h : chkS typ s = 0) : typB typ = true ∧ s.length ≤ 50 ∧ validS typ s = true := by
  unfold chkS at h
  split at h
  · rename_i h1
    split at h
    · cases h
    · split at h
      · exact ⟨h1, by omega, by assumption⟩
      · cases h
  · cases h
theorem chkS_mk {typ : Int} {s : List Int} (h1 : typB typ = true) (h2 : s.length ≤ 50) (h3 : validS typ s = true) : chkS typ s = 0 := by
  unfold chkS
  rw [if_pos h1, if_neg (by omega), if_pos h3]
theorem okI_of {kind a : Int} (h : argB kind a = true) (hk : ¬ (kind = 2 ∨ kind = 4 ∨ kind = 6 ∨ kind = 10)) : okI a = true := by
  unfold argB at h
  rw [if_neg hk] at h
  simp only [decide_eq_true_eq] at h
  simp [okI, h.1, h.2]
theorem step_valid {typ : Int} {s : List Int} {kind a : Int} (h : chkS typ s = 0) (hf : fitB typ kind) (ha : argB kind a = true) (he : (stepP typ s kind a).2.2 = 0) : chkS typ (stepP typ s kind a).1 = 0 := by
  obtain ⟨h1, h2, h3⟩ := chkS_ok h
  rcases hf with ⟨rfl, rfl | rfl⟩ | ⟨rfl, rfl | rfl⟩ | ⟨rfl, rfl | rfl⟩ | ⟨rfl, hk⟩ | ⟨rfl, rfl⟩
  · have := okI_of ha (by decide)
    simp only [okI, Bool.and_eq_true, decide_eq_true_eq] at this
    refine chkS_mk h1 (by simp [stepP]) ?_
    simp [stepP, validS, oneB]; omega
  · simpa [stepP] using h
  · have := okI_of ha (by decide)
    simp only [stepP] at he ⊢
    by_cases h50 : s.length = 50
    · simp [h50] at he
    · simp only [h50]
      refine chkS_mk h1 (by simp; omega) ?_
      simp only [validS] at h3 ⊢
      simpa [this] using h3
  · simp only [stepP] at he ⊢
    by_cases h0 : s.length = 0
    · simpa [h0] using h
    · refine chkS_mk h1 (by simp [h0]; omega) ?_
      simp only [validS, h0] at h3 ⊢
      have h3' : s.all okI = true := by simpa using h3
      simpa using all_okI_of h3' (t := s.drop 1) fun x hx => List.mem_of_mem_drop hx
  · have := okI_of ha (by decide)
    simp only [stepP] at he ⊢
    by_cases h50 : s.length = 50
    · simp [h50] at he
    · simp only [h50]
      refine chkS_mk h1 (by simp; omega) ?_
      simp only [validS] at h3 ⊢
      simpa [this] using h3
  · simp only [stepP] at he ⊢
    by_cases h0 : s.length = 0
    · simpa [h0] using h
    · refine chkS_mk h1 (by simp [h0]; omega) ?_
      simp only [validS, h0] at h3 ⊢
      have h3' : s.all okI = true := by simpa using h3
      simpa using all_okI_of h3' (t := s.take (s.length - 1)) fun x hx => List.mem_of_mem_take hx
  · have ho := okI_of ha (by omega)
    have h3' : ascB s = true ∧ s.all okI = true := by simpa [validS] using h3
    obtain ⟨v1, v2⟩ := setP_valid (kind := kind) (asc_of h3'.1) h3'.2 ho
    have e : (4 : Int) = 4 := rfl
    by_cases hfull : kind = 7 ∧ s.contains a = false ∧ s.length = 50
    · unfold stepP at he
      rw [if_neg (by decide), if_neg (by decide), if_neg (by decide), if_pos rfl, if_pos hfull] at he; cases he
    · have hs : stepP 4 s kind a = ((setP s kind a).1, (setP s kind a).2, 0) := by
        unfold stepP
        rw [if_neg (by decide), if_neg (by decide), if_neg (by decide), if_pos rfl, if_neg hfull]
      rw [hs]
      refine chkS_mk h1 (setP_len h2 hfull) ?_
      simp only [validS]
      rw [if_neg (by decide), if_pos trivial, Bool.and_eq_true]
      exact ⟨ascB_of v1, v2⟩
  · simp only [stepP] at he ⊢
    have h3' : oneB s = true := by simpa [validS] using h3
    simp only [oneB, Bool.and_eq_true, decide_eq_true_eq] at h3'
    by_cases hm : s.getD 0 0 = 1000
    · rw [if_neg (by decide), if_neg (by decide), if_neg (by decide), if_neg (by decide), if_pos hm] at he; cases he
    · rw [if_neg (by decide), if_neg (by decide), if_neg (by decide), if_neg (by decide), if_neg hm]
      refine chkS_mk h1 (by simp) ?_
      simp only [validS, oneB, List.getD_cons_zero, List.length_singleton]
      rw [if_pos (by decide), Bool.and_eq_true, Bool.and_eq_true, decide_eq_true_eq, decide_eq_true_eq, decide_eq_true_eq]
      exact ⟨trivial, by omega, by omega⟩
theorem step_bad {typ : Int} {s : List Int} {kind a : Int} (h : (stepP typ s kind a).2.2 ≠ 0) : stepP typ s kind a = ([], 0, 2) := by
  unfold stepP at h ⊢
  repeat' split at h
  all_goals first | (exact absurd rfl h) | skip
  all_goals simp_all
/-- how many of what is done may be -/
def playF (typ : Int) (s : List Int) : List (Int × Int × Int) → Nat
  | [] => 0
  | (k, a, r) :: l => match stepP typ s k a with
    | (next, n, e) => if e = 0 ∧ n = r then playF typ next l + 1 else 0
end Go.Proofs.Ytiimjppceobkfaa

namespace Go.Proofs.Ytiimjppceobkfaa
open Go.RowKit

theorem kinds_end {t : Int} {w : World} {l : List Int} {v : Value} (hk : kindsL t = l) (hv : v = .slice (some ⟨w.heap.size, 0, none⟩) l.length l.length) :
    ∃ A c, Ending.returned v = .returned (.slice A (kindsL t).length c) ∧ RdInt (w.alloc (.cells (l.map (Value.int .i64)).toArray 3)) A (kindsL t) ∧ Below w.heap.size w (w.alloc (.cells (l.map (Value.int .i64)).toArray 3)) := by
  subst hk hv
  exact ⟨_, _, rfl, RdInt.of_list (Blk.new _ _ _), by (repeat (first | assumption | exact Below.refl _ _ | refine bel_alloc ?_ _ | refine Below.drew ?_ | refine below_drewN' ?_ _ | (refine bel_set ?_ (by first | (simp; done) | (simp; omega)) _) | (refine bel_row ?_ (by first | (simp; done) | (simp; omega)) _)))⟩
theorem kinds_nil {t : Int} {w : World} {v : Value} (hk : kindsL t = []) (hv : v = .slice none 0 0) :
    ∃ A c, Ending.returned v = .returned (.slice A (kindsL t).length c) ∧ RdInt w A (kindsL t) ∧ Below w.heap.size w w := by
  subst hv
  rw [hk]
  exact ⟨_, _, rfl, RdE.nil _, by (repeat (first | assumption | exact Below.refl _ _ | refine bel_alloc ?_ _ | refine Below.drew ?_ | refine below_drewN' ?_ _ | (refine bel_set ?_ (by first | (simp; done) | (simp; omega)) _) | (refine bel_row ?_ (by first | (simp; done) | (simp; omega)) _)))⟩
theorem kinds_any (t : Int) (w : World) : Calls Try.prog 106 #[.int .i64 t] w fun e w' => ∃ A c, e = .returned (.slice A (kindsL t).length c) ∧ RdInt w' A (kindsL t) ∧ Below w.heap.size w w' := by
  go_enter Try.func106, Try.ntmps106
  go_wp2
  all_goals
    go_ret
    simp only [beq_iff_eq, beq_eq_false_iff_ne] at *
    first
      | (obtain rfl : t = 1 := by assumption
         exact kinds_end (l := [1, 2]) rfl rfl)
      | (obtain rfl : t = 2 := by assumption
         exact kinds_end (l := [3, 4]) rfl rfl)
      | (obtain rfl : t = 3 := by assumption
         exact kinds_end (l := [5, 6]) rfl rfl)
      | (obtain rfl : t = 4 := by assumption
         exact kinds_end (l := [7, 8, 9]) rfl rfl)
      | (obtain rfl : t = 5 := by assumption
         exact kinds_end (l := [10]) rfl rfl)
      | exact kinds_nil (by unfold kindsL; simp only [*, if_false]) rfl

def idxI (l : List Int) (x : Int) : Int := if x ∈ l then (l.idxOf x : Int) else -1
theorem idxI_nn (l : List Int) (x : Int) : decide (0 ≤ idxI l x) = l.contains x := by
  rw [Bool.eq_iff_iff]
  unfold idxI
  by_cases h : x ∈ l <;> simp [h]

set_option maxHeartbeats 2000000 in
theorem index_any (A : Option Addr) (c : Nat) (l : List Int) (x : Int) (w : World) (hl : l.length ≤ 9223372036854775807) (hA : RdInt w A l) :
    Calls Try.prog 146 #[.slice A l.length c, .int .i64 x] w fun e w' => e = .returned (.int .i64 (idxI l x)) ∧ Below w.heap.size w w' := by
  go_enter Try.func146, Try.ntmps146
  go_wp2
  go_loopw [8] (fun i wr => ∃ k : Nat, k ≤ l.length ∧ i = .int .i64 k ∧ Hid (x ∉ l.take k) ∧ Below w.heap.size w wr) (fun i _ => l.length - (intOf i).toNat)
  case atStart => exact ⟨0, by omega, rfl, Lib.hid (by simp), Below.refl _ _⟩
  case round =>
    obtain ⟨k, hk, rfl, hno, hbel⟩ := hrel
    by_cases hlt : k < l.length
    · obtain ⟨b, o, rfl, hb0, hbs, c0⟩ := hA.at_ hbel k hlt
      have hk1 : (k : Int) < (l.length : Int) := by omega
      by_cases he : x = l[k]
      · have hb : (x == l[k]) = true := by simp [he]
        have He := Lib.hid he
        clear he
        go_wp2
        go_ret
        exact ⟨ret_int (by
          have hm : x ∈ l := by rw [He.out]; exact List.getElem_mem _
          unfold idxI
          rw [if_pos hm]
          have : l.idxOf x = k := findIdx_at hlt (by
            rw [List.any_eq_false]
            intro y hy e
            rw [beq_iff_eq] at e
            subst e
            exact hno.out hy) (by simp [He.out])
          rw [this]), by (repeat (first | assumption | exact Below.refl _ _ | refine bel_alloc ?_ _ | refine Below.drew ?_ | refine below_drewN' ?_ _ | (refine bel_set ?_ (by first | (simp; done) | (simp; omega)) _) | (refine bel_row ?_ (by first | (simp; done) | (simp; omega)) _)))⟩
      · have hb : (x == l[k]) = false := by simp [he]
        have He := Lib.hid he
        clear he
        go_wp2
        go_roundw
        case rel => exact ⟨k + 1, by omega, by go_num, Lib.hid (by
          rw [List.take_succ_eq_append_getElem hlt]
          simp only [List.mem_append, List.mem_singleton, not_or]
          exact ⟨hno.out, He.out⟩), by (repeat (first | assumption | exact Below.refl _ _ | refine bel_alloc ?_ _ | refine Below.drew ?_ | refine below_drewN' ?_ _ | (refine bel_set ?_ (by first | (simp; done) | (simp; omega)) _) | (refine bel_row ?_ (by first | (simp; done) | (simp; omega)) _)))⟩
        case measure => simp [intOf]; omega
    · obtain rfl : k = l.length := by omega
      go_wp2
      go_ret
      exact ⟨ret_int (by
        unfold idxI
        rw [if_neg]
        simpa using hno.out), hbel⟩

theorem contains_any (A : Option Addr) (c : Nat) (l : List Int) (x : Int) (w : World) (hl : l.length ≤ 9223372036854775807) (hA : RdInt w A l) :
    Calls Try.prog 92 #[.slice A l.length c, .int .i64 x] w fun e w' => e = .returned (.bool (l.contains x)) ∧ Below w.heap.size w w' := by
  go_enter Try.func92, Try.ntmps92
  go_wp2_with (go_at_call 146; refine (index_any _ _ _ _ _ hl hA).mono ?_; rintro e w' ⟨rfl, hb⟩)
  go_ret
  exact ⟨ret_bool (by rw [← idxI_nn]), by (repeat (first | assumption | exact Below.refl _ _ | refine bel_alloc ?_ _ | refine Below.drew ?_ | refine below_drewN' ?_ _ | (refine bel_set ?_ (by first | (simp; done) | (simp; omega)) _) | (refine bel_row ?_ (by first | (simp; done) | (simp; omega)) _)))⟩

theorem badType_any (t : Int) (w : World) : Calls Try.prog 149 #[.int .i64 t] w fun e w' => e = .returned (.bool (decide (t < 1 ∨ 5 < t))) ∧ w = w' := by
  by_cases h1 : t < 1
  · have hb : decide (t < 1) = true := by simpa using h1
    go_enter Try.func149, Try.ntmps149
    go_wp2
    go_ret
    simp [h1]
  · have hb : decide (t < 1) = false := by simpa using h1
    go_enter Try.func149, Try.ntmps149
    go_wp2
    go_ret
    simp [h1]

def badT (t : Int) : Bool := decide (t < 1 ∨ 5 < t)
set_option maxHeartbeats 2000000 in
theorem indexFunc_any (A : Option Addr) (c : Nat) (l : List Int) (w : World) (hl : l.length ≤ 9223372036854775807) (hA : RdInt w A l) :
    Calls Try.prog 188 #[.slice A l.length c, .func (.func 149) #[] #[]] w fun e w' => (∃ r : Int, e = .returned (.int .i64 r) ∧ decide (0 ≤ r) = l.any badT) ∧ Below w.heap.size w w' := by
  go_enter Try.func188, Try.ntmps188
  go_wp2
  go_loopw [8] (fun i wr => ∃ k : Nat, k ≤ l.length ∧ i = .int .i64 k ∧ Hid ((l.take k).any badT = false) ∧ Below w.heap.size w wr) (fun i _ => l.length - (intOf i).toNat)
  case atStart => exact ⟨0, by omega, rfl, Lib.hid (by simp), Below.refl _ _⟩
  case round =>
    obtain ⟨k, hk, rfl, hno, hbel⟩ := hrel
    by_cases hlt : k < l.length
    · obtain ⟨b, o, rfl, hb0, hbs, c0⟩ := hA.at_ hbel k hlt
      have hk1 : (k : Int) < (l.length : Int) := by omega
      by_cases he : badT l[k] = true
      · have hb : decide (l[k] < 1 ∨ 5 < l[k]) = true := he
        have He := Lib.hid he
        clear he
        go_wp2_with (go_at_call 149; refine (badType_any _ _).mono ?_; rintro e w' ⟨rfl, rfl⟩)
        go_ret
        exact ⟨⟨_, rfl, by
          have : l.any badT = true := List.any_eq_true.2 ⟨l[k], List.getElem_mem _, He.out⟩
          rw [this]; simp⟩, by (repeat (first | assumption | exact Below.refl _ _ | refine bel_alloc ?_ _ | refine Below.drew ?_ | refine below_drewN' ?_ _ | (refine bel_set ?_ (by first | (simp; done) | (simp; omega)) _) | (refine bel_row ?_ (by first | (simp; done) | (simp; omega)) _)))⟩
      · have he' : badT l[k] = false := by simpa using he
        have hb : decide (l[k] < 1 ∨ 5 < l[k]) = false := he'
        have He := Lib.hid he'
        clear he he'
        go_wp2_with (go_at_call 149; refine (badType_any _ _).mono ?_; rintro e w' ⟨rfl, rfl⟩)
        go_roundw
        case rel => exact ⟨k + 1, by omega, by go_num, Lib.hid (any_take_succ' hlt hno.out He.out), by (repeat (first | assumption | exact Below.refl _ _ | refine bel_alloc ?_ _ | refine Below.drew ?_ | refine below_drewN' ?_ _ | (refine bel_set ?_ (by first | (simp; done) | (simp; omega)) _) | (refine bel_row ?_ (by first | (simp; done) | (simp; omega)) _)))⟩
        case measure => simp [intOf]; omega
    · obtain rfl : k = l.length := by omega
      go_wp2
      go_ret
      exact ⟨⟨_, rfl, by have := hno.out; rw [List.take_length] at this; rw [this]; simp⟩, hbel⟩
theorem containsFunc_any (A : Option Addr) (c : Nat) (l : List Int) (w : World) (hl : l.length ≤ 9223372036854775807) (hA : RdInt w A l) :
    Calls Try.prog 150 #[.slice A l.length c, .func (.func 149) #[] #[]] w fun e w' => e = .returned (.bool (l.any badT)) ∧ Below w.heap.size w w' := by
  go_enter Try.func150, Try.ntmps150
  go_wp2_with (go_at_call 188; refine (indexFunc_any _ _ _ _ hl hA).mono ?_; rintro e w' ⟨⟨r, rfl, hr⟩, hb⟩)
  go_ret
  exact ⟨rfl, by assumption⟩

def typesOk (l : List Int) : Bool := decide (1 ≤ l.length ∧ l.length ≤ 4) && !l.any badT
def typesE (l : List Int) : Int := if typesOk l then 0 else 1
set_option maxHeartbeats 2000000 in
theorem types_any (A : Option Addr) (c : Nat) (l : List Int) (w : World) (hl : l.length ≤ 9223372036854775807) (hA : RdInt w A l) :
    Calls Try.prog 96 #[.slice A l.length c] w fun e w' => e = .returned (.int .i64 (typesE l)) ∧ Below w.heap.size w w' := by
  by_cases h1 : l.length < 1
  · have hb : decide ((l.length : Int) < 1) = true := by simp; omega
    have hk : typesOk l = false := by simp [typesOk]; omega
    go_enter Try.func96, Try.ntmps96
    go_wp2
    go_ret
    exact ⟨ret_int (by simp [typesE, hk]), by (repeat (first | assumption | exact Below.refl _ _ | refine bel_alloc ?_ _ | refine Below.drew ?_ | refine below_drewN' ?_ _ | (refine bel_set ?_ (by first | (simp; done) | (simp; omega)) _) | (refine bel_row ?_ (by first | (simp; done) | (simp; omega)) _)))⟩
  · by_cases h2 : 4 < l.length
    · have hb : decide ((l.length : Int) < 1) = false := by simp; omega
      have hb2 : decide (4 < (l.length : Int)) = true := by simp; omega
      have hk : typesOk l = false := by simp [typesOk]; omega
      go_enter Try.func96, Try.ntmps96
      go_wp2
      go_ret
      exact ⟨ret_int (by simp [typesE, hk]), by (repeat (first | assumption | exact Below.refl _ _ | refine bel_alloc ?_ _ | refine Below.drew ?_ | refine below_drewN' ?_ _ | (refine bel_set ?_ (by first | (simp; done) | (simp; omega)) _) | (refine bel_row ?_ (by first | (simp; done) | (simp; omega)) _)))⟩
    · have hb : decide ((l.length : Int) < 1) = false := by simp; omega
      have hb2 : decide (4 < (l.length : Int)) = false := by simp; omega
      have hk : typesOk l = !l.any badT := by simp [typesOk]; omega
      have Hk := Lib.hid hk
      clear hk
      go_enter Try.func96, Try.ntmps96
      go_wp2_with (go_at_call 150; refine (containsFunc_any _ _ _ _ hl hA).mono ?_; rintro e w' ⟨rfl, hb⟩)
      all_goals
        go_ret
        exact ⟨ret_int (by rw [typesE, Hk.out]; simp [*]), by assumption⟩

theorem asks_eq (k n : Int) : argB k n = if [2, 4, 6, 10].contains k then decide (n = 0) else decide (1 ≤ n ∧ n ≤ 1000) := by
  unfold argB
  by_cases h : k = 2 ∨ k = 4 ∨ k = 6 ∨ k = 10
  · rw [if_pos h, if_pos (by simpa using h)]
  · rw [if_neg h, if_neg (by simpa using h)]
theorem asks_any (k n : Int) (w : World) :
    Calls Try.prog 107 #[.int .i64 k, .int .i64 n] w fun e w' => e = .returned (.bool (argB k n)) ∧ Below w.heap.size w w' := by
  have R := RdInt.of_list (l := [2, 4, 6, 10]) (Blk.new w 3 _)
  rw [asks_eq]
  by_cases hc : [2, 4, 6, 10].contains k = true
  · rw [if_pos hc]
    go_enter Try.func107, Try.ntmps107
    go_wp2_with (go_at_call 92; refine (contains_any _ _ [2, 4, 6, 10] _ _ (by decide) R).mono ?_; rintro e w' ⟨rfl, hb⟩; rw [hc])
    go_ret
    exact ⟨rfl, bel_trans (bel_alloc (Below.refl _ _) _) hb⟩
  · rw [if_neg hc]
    have hc' : [2, 4, 6, 10].contains k = false := by simpa using hc
    clear hc
    go_enter Try.func107, Try.ntmps107
    go_wp2_with (first | (go_at_call 92; refine (contains_any _ _ [2, 4, 6, 10] _ _ (by decide) R).mono ?_; rintro e w' ⟨rfl, hb⟩; rw [hc']) | (go_at_call 33; refine (between_any _ _ _ _).mono ?_; rintro e w' ⟨rfl, rfl⟩))
    go_ret
    exact ⟨ret_bool (by rw [Bool.eq_iff_iff]; simp), bel_trans (bel_alloc (Below.refl _ _) _) hb⟩
end Go.Proofs.Ytiimjppceobkfaa
