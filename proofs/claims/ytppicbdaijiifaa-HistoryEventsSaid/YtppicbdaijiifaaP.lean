/- Calls that turn a part of what is known: the part pulled to the front by itself. No condition. -/
import Derived.Test.YtppicbdaijiifaaE
set_option linter.unusedSimpArgs false
set_option linter.unusedVariables false
set_option linter.unusedSectionVars false
set_option linter.unnecessarySimpa false
namespace Go.Proofs.Ytppicbdaijiifaa
open Go.RowKit

/-- S holds what S1 says, in any order; R is left -/
inductive Pull : List Ent → List Ent → List Ent → Prop
  | nil (S : List Ent) : Pull S [] S
  | cons {S R T R' : List Ent} {e : Ent} (h : Pick S e R) (t : Pull R T R') : Pull S (e :: T) R'
theorem Pull.mem : ∀ {S T R : List Ent}, Pull S T R → ∀ f, f ∈ T ++ R ↔ f ∈ S
  | _, _, _, .nil _, f => by simp
  | _, _, _, .cons h t, f => by
    obtain ⟨A, B, rfl, rfl⟩ := h.form
    have := t.mem f
    rw [List.cons_append, List.mem_cons, this]
    simp only [List.mem_append, List.mem_cons]
    constructor
    · rintro (h | h | h)
      · exact .inr (.inl h)
      · exact .inl h
      · exact .inr (.inr h)
    · rintro (h | h | h)
      · exact .inr (.inl h)
      · exact .inl h
      · exact .inr (.inr h)
section
variable {C : Ctx} {w : World} {S T R : List Ent}
theorem Mem.pull (hw : Mem C w S) (h : Pull S T R) : Mem C w (T ++ R) := by
  induction h with
  | nil S => exact hw
  | @cons S R T R' e h t ih =>
    have h1 := hw.pick h
    have hap := List.pairwise_cons.1 h1.apart
    have h2 := ih (h1.sub (List.sublist_cons_self _ _))
    refine ⟨h2.keeps, fun f hf => ?_, ?_⟩
    · rcases List.mem_cons.1 hf with rfl | hf
      · exact h1.holds f (by simp)
      · exact h2.holds f hf
    · exact List.pairwise_cons.2 ⟨fun f hf => hap.1 f ((t.mem f).1 hf), h2.apart⟩
end
/-- one list behind the other, laid flat -/
inductive AppL : List Ent → List Ent → List Ent → Prop
  | nil (R : List Ent) : AppL [] R R
  | cons {T R S2 : List Ent} (e : Ent) (h : AppL T R S2) : AppL (e :: T) R (e :: S2)
theorem AppL.eq {T R S2 : List Ent} (h : AppL T R S2) : T ++ R = S2 := by
  induction h with
  | nil R => rfl
  | cons e _ ih => rw [List.cons_append, ih]
section
variable {P : Program} {C : Ctx} {Q : Exit → Act → World → Prop} {E : Slots} {S S1 S1' R S2 : List Ent}
variable {d ty : Nat} {ps : String} {af : Array Edge} {g0 : Option (Nat × Bool)} {f : Nat}
/-- a call that turns what it is handed -/
theorem ES_callMp [hf : IsFn P f] {xs : List Operand} {vs : List Value} {ats : Array TypeId} {v : Value} (hx : evs E xs = some vs) (hS : Pull S S1 R) (hA : AppL S1' R S2)
    (hc : ∀ w, Mem C w (S1 ++ R) → Calls P f vs.toArray w fun e w' => e = .returned v ∧ Mem ⟨0, blks S1, w⟩ w' S1') (hd : Nat.ble (d + 1) C.n = true) :
    ES P C E S ⟨some d, .call ⟨.value (.func f), xs.toArray, ats⟩, ty, ps, af, g0⟩ (fun E' S' => E' = (d, v) :: E ∧ S' = S2) :=
  (ES_call (fun u T => u = v ∧ T = S1' ++ R) hx (fun w hw => (hc w (hw.pull hS)).mono fun e w' ⟨he, hb⟩ => ⟨v, _, he, (hw.pull hS).frame hb, rfl, rfl⟩) hd).weak (by rintro _ _ ⟨_, ⟨rfl, rfl⟩, rfl⟩; exact ⟨rfl, hA.eq⟩)
/-- a call of a function value that turns what it is handed -/
theorem ES_callFMp [hf : IsFn P f] {x : Operand} {xs : List Operand} {vs us cs : List Value} {ats : Array TypeId} {v : Value} (hv : evo E x = some (.func (.func f) us.toArray cs.toArray)) (hx : evs E xs = some vs) (hS : Pull S S1 R) (hA : AppL S1' R S2)
    (hc : ∀ w, Mem C w (S1 ++ R) → Calls P f (us ++ vs ++ cs).toArray w fun e w' => e = .returned v ∧ Mem ⟨0, blks S1, w⟩ w' S1') (hd : Nat.ble (d + 1) C.n = true) :
    ES P C E S ⟨some d, .call ⟨.value x, xs.toArray, ats⟩, ty, ps, af, g0⟩ (fun E' S' => E' = (d, v) :: E ∧ S' = S2) :=
  (ES_enter (fun u T => u = v ∧ T = S1' ++ R) (fun a w ha => run_callV hv hx ha) (fun w hw => (hc w (hw.pull hS)).mono fun e w' ⟨he, hb⟩ => ⟨v, _, he, (hw.pull hS).frame hb, rfl, rfl⟩) hd).weak (by rintro _ _ ⟨_, ⟨rfl, rfl⟩, rfl⟩; exact ⟨rfl, hA.eq⟩)
/-- a cut behind an 'if', named by its first region -/
theorem T_cutIf {X : Type} (id : Nat) {ops : Array Oper} {dr : Bool} {x y : Code} (I : X → Slots) (J : X → List Ent) (pre : X → Prop) (hx : T P C (.seq (.region id ops dr) x) (Exit.then (Cut C I J pre) Q) E S) (hy : ∀ z, pre z → T P C y Q (I z) (J z)) : T P C (.seq (.seq (.region id ops dr) x) y) Q E S :=
  T_cut I J pre hx hy
end
end Go.Proofs.Ytppicbdaijiifaa
