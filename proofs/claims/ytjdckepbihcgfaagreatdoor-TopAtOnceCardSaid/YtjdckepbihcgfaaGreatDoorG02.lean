/- Lemmas for the walks (T, T2). No condition. -/
import Derived.Test.YtjdckepbihcgfaaGreatDoorG01
import Derived.Deep.MidRow
import Derived.Laws.AppendOwn
import Derived.IntWalk
set_option linter.unusedSimpArgs false
set_option linter.unusedVariables false
set_option linter.unusedSectionVars false
set_option linter.unnecessarySimpa false
namespace Go.Proofs.YtjdckepbihcgfaaGreatDoor
open Go.RowKit

abbrev Slots := List (Nat × Value)
def look (t : Nat) : Slots → Option Value
  | [] => none
  | (k, v) :: E => match Nat.beq k t with
    | true => some v
    | false => look t E
def evo (E : Slots) : Operand → Option Value
  | .tmp t => look t E
  | .const v => some v
  | .global g => some (.pointer (some ⟨g, 0, none⟩))
  | .func f => some (.func (.func f) #[] #[])
def Env (n : Nat) (a : Act) (E : Slots) : Prop := a.defers = [] ∧ a.tmps.size = n ∧ ∀ t v, look t E = some v → a.tmps[t]? = some v

section
variable {n : Nat} {a : Act} {E : Slots}
theorem Env.evo (h : Env n a E) {x : Operand} {v : Value} (hx : evo E x = some v) : a.eval x = v := by
  cases x with
  | tmp t =>
    have := h.2.2 t v hx
    simp [Act.eval, this]
  | const u => simpa [Go.Proofs.YtjdckepbihcgfaaGreatDoor.evo, Act.eval] using hx
  | global g => simpa [Go.Proofs.YtjdckepbihcgfaaGreatDoor.evo, Act.eval] using hx
  | func f => simpa [Go.Proofs.YtjdckepbihcgfaaGreatDoor.evo, Act.eval] using hx
theorem Env.put (h : Env n a E) {d : Nat} (hd : Nat.ble (d + 1) n = true) (v : Value) : Env n (a.put (some d) v) ((d, v) :: E) := by
  refine ⟨h.1, by simpa [Act.put] using h.2.1, fun t u hu => ?_⟩
  have hdn : d < n := Nat.le_of_ble_eq_true hd
  simp only [look] at hu
  by_cases e : d = t
  · subst e
    simp only [Nat.beq_refl, Option.some.injEq] at hu
    subst hu
    simp [Act.put, h.2.1, hdn]
  · have : Nat.beq d t = false := by
      rw [Bool.eq_false_iff]; intro hb; exact e (Nat.eq_of_beq_eq_true hb)
    rw [this] at hu
    simp only [Act.put]
    rw [Array.getElem?_setIfInBounds_ne e]
    exact h.2.2 t u hu
theorem Env.putNone (h : Env n a E) (v : Value) : Env n (a.put none v) E := h
theorem Env.sub {E' : Slots} (h : Env n a E) (hs : ∀ t v, look t E' = some v → look t E = some v) : Env n a E' := ⟨h.1, h.2.1, fun t v hv => h.2.2 t v (hs t v hv)⟩
/-- what a slot is known to hold may be said otherwise -/
theorem Env.same (h : Env n a E) {t : Nat} {v v' : Value} (hv : look t E = some v) (e : v = v') : Env n a ((t, v') :: E) := by
  refine ⟨h.1, h.2.1, fun k u hu => ?_⟩
  simp only [look] at hu
  split at hu
  · rename_i hb
    have := Nat.eq_of_beq_eq_true hb
    subst this
    cases hu
    exact h.2.2 _ _ (e ▸ hv)
  · exact h.2.2 k u hu
end

def SubE (E E' : Slots) : Prop := ∀ t v, look t E' = some v → look t E = some v
theorem SubE.nil (E : Slots) : SubE E [] := fun t v h => by cases h
theorem SubE.cons {E E' : Slots} {t : Nat} {v : Value} (hv : look t E = some v) (h : SubE E E') : SubE E ((t, v) :: E') := by
  intro k u hu
  simp only [look] at hu
  split at hu
  · rename_i hb
    have := Nat.eq_of_beq_eq_true hb
    subst this
    cases hu
    exact hv
  · exact h k u hu

/-- what is known of memory: of some blocks each (has; fin: they are these) -/
structure Ent where
  has : Nat → Prop
  fin : List Nat
  hfin : ∀ g, g ∈ fin ↔ has g
  p : World → Prop
  loc : ∀ w w' : World, (∀ g, has g → w'.heap[g]? = w.heap[g]?) → p w → p w'

structure Ctx where
  n : Nat
  F : List Nat
  w0 : World

/-- all blocks are kept but those of F -/
structure Keeps (F : List Nat) (w w' : World) : Prop where
  os : w'.os = w.os
  tape : w'.tape = w.tape
  output : w'.output = w.output
  size : w.heap.size ≤ w'.heap.size
  block : ∀ k, k < w.heap.size → k ∉ F → w'.heap[k]? = w.heap[k]?
theorem Keeps.refl (F : List Nat) (w : World) : Keeps F w w := ⟨rfl, rfl, rfl, Nat.le_refl _, fun _ _ _ => rfl⟩
theorem Keeps.below {w w' : World} (h : Keeps [] w w') : Below w.heap.size w w' := ⟨h.os, h.tape, h.output, h.size, fun k hk => h.block k hk (by simp)⟩
theorem Keeps.of_below {F : List Nat} {w w' : World} (h : Below w.heap.size w w') : Keeps F w w' := ⟨h.os, h.tape, h.output, h.size, fun k hk _ => h.block k hk⟩

structure Mem (C : Ctx) (w : World) (S : List Ent) : Prop where
  keeps : Keeps C.F C.w0 w
  holds : ∀ e ∈ S, e.p w ∧ ∀ g, e.has g → g < w.heap.size ∧ (g ∈ C.F ∨ C.w0.heap.size ≤ g)
  apart : S.Pairwise fun e f => ∀ g, e.has g → ¬ f.has g

section
variable {C : Ctx} {w w' : World} {S S' : List Ent} {e e' : Ent}
theorem Mem.nil (C : Ctx) : Mem C C.w0 [] := ⟨Keeps.refl _ _, by simp, .nil⟩
/-- a change that leaves all that is known alone -/
theorem Mem.keep {F : List Nat} (h : Mem C w S) (hk : Keeps F w w') (hF : ∀ g ∈ F, g ∈ C.F ∨ C.w0.heap.size ≤ g) (hS : ∀ e ∈ S, ∀ g, e.has g → g ∉ F) : Mem C w' S := by
  refine ⟨⟨hk.os.trans h.keeps.os, hk.tape.trans h.keeps.tape, hk.output.trans h.keeps.output, Nat.le_trans h.keeps.size hk.size, fun k hk' hF' => ?_⟩, fun e he => ?_, h.apart⟩
  · refine (hk.block k (Nat.lt_of_lt_of_le hk' h.keeps.size) fun hm => ?_).trans (h.keeps.block k hk' hF')
    rcases hF k hm with h1 | h1
    · exact hF' h1
    · omega
  · obtain ⟨h1, h2⟩ := h.holds e he
    refine ⟨e.loc w w' (fun g hg => hk.block g (h2 g hg).1 (hS e he g hg)) h1, fun g hg => ⟨Nat.lt_of_lt_of_le (h2 g hg).1 hk.size, (h2 g hg).2⟩⟩
theorem Mem.below (h : Mem C w S) (hb : Below w.heap.size w w') : Mem C w' S :=
  h.keep (F := []) (Keeps.of_below hb) (by simp) (by simp)
theorem Mem.drewN (h : Mem C w S) (k : Nat) : Mem C (w.drewN k) S := h.below (below_drewN' (Below.refl _ _) k)
theorem Mem.drew (h : Mem C w S) : Mem C w.drew S := h.below (Below.drew (Below.refl _ _))
theorem Mem.sub (h : Mem C w S) (hs : S'.Sublist S) : Mem C w S' := ⟨h.keeps, fun e he => h.holds e (hs.subset he), h.apart.sublist hs⟩
/-- what is known anew of a block that did not exist -/
theorem Mem.fresh {W : World} (h : Mem C W S) (hb : Below W.heap.size W w) (he : ∀ g, e.has g → W.heap.size ≤ g ∧ g < w.heap.size) (hp : e.p w) : Mem C w (e :: S) := by
  have h' := h.below hb
  refine ⟨h'.keeps, fun f hf => ?_, ?_⟩
  · rcases List.mem_cons.1 hf with rfl | hf
    · exact ⟨hp, fun k hk => ⟨(he k hk).2, .inr (Nat.le_trans h.keeps.size (he k hk).1)⟩⟩
    · exact h'.holds f hf
  · refine List.pairwise_cons.2 ⟨fun f hf k hk hk' => ?_, h'.apart⟩
    have := ((h.holds f hf).2 k hk').1
    have := (he k hk).1
    omega
theorem Mem.alloc (h : Mem C w S) (o : Obj) (hg : ∀ k, e.has k → some w.heap.size = some k) (hp : e.p (w.alloc o)) : Mem C (w.alloc o) (e :: S) :=
  h.fresh (bel_alloc (Below.refl _ _) o) (fun g hg' => by cases hg g hg'; exact ⟨Nat.le_refl _, by simp⟩) hp
end

/-- e stands in S; with e' in its place it is S' -/
inductive Upd : List Ent → Ent → Ent → List Ent → Prop
  | here (e e' : Ent) (S : List Ent) : Upd (e :: S) e e' (e' :: S)
  | there {S S' : List Ent} {e e' : Ent} (f : Ent) (h : Upd S e e' S') : Upd (f :: S) e e' (f :: S')
theorem Upd.mem {S S' : List Ent} {e e' : Ent} (h : Upd S e e' S') : e ∈ S := by
  induction h with
  | here => simp
  | there f _ ih => simp [ih]
theorem Upd.form {S S' : List Ent} {e e' : Ent} (h : Upd S e e' S') : ∃ A B, S = A ++ e :: B ∧ S' = A ++ e' :: B := by
  induction h with
  | here e e' S => exact ⟨[], S, rfl, rfl⟩
  | there f _ ih => obtain ⟨A, B, rfl, rfl⟩ := ih; exact ⟨f :: A, B, rfl, rfl⟩
theorem Mem.upd {C : Ctx} {w w' : World} {S S' : List Ent} {e e' : Ent} (h : Mem C w S) (hu : Upd S e e' S') {F : List Nat} (hk : Keeps F w w') (hF : ∀ g ∈ F, e.has g)
    (he : ∀ g, e'.has g → g < w'.heap.size ∧ (e.has g ∨ w.heap.size ≤ g)) (hp : e'.p w') : Mem C w' S' := by
  obtain ⟨A, B, rfl, rfl⟩ := hu.form
  have hap := h.apart
  rw [List.pairwise_append, List.pairwise_cons] at hap
  obtain ⟨hA, ⟨hB1, hB⟩, hAB⟩ := hap
  have hfar : ∀ f, f ∈ A ∨ f ∈ B → ∀ g, f.has g → ¬ e.has g := by
    intro f hf g hg hge
    rcases hf with hf | hf
    · exact hAB f hf e (by simp) g hg hge
    · exact hB1 f hf g hge hg
  have hold : ∀ f, f ∈ A ∨ f ∈ B → f.p w' ∧ ∀ g, f.has g → g < w'.heap.size ∧ (g ∈ C.F ∨ C.w0.heap.size ≤ g) := by
    intro f hf
    have hm : f ∈ A ++ e :: B := by rcases hf with hf | hf <;> simp [hf]
    obtain ⟨h1, h2⟩ := h.holds f hm
    refine ⟨f.loc w w' (fun g hg => hk.block g (h2 g hg).1 fun hgF => hfar f hf g hg (hF g hgF)) h1, fun g hg => ⟨Nat.lt_of_lt_of_le (h2 g hg).1 hk.size, (h2 g hg).2⟩⟩
  have hce := h.holds e (by simp)
  refine ⟨⟨hk.os.trans h.keeps.os, hk.tape.trans h.keeps.tape, hk.output.trans h.keeps.output, Nat.le_trans h.keeps.size hk.size, fun k hk' hF' => ?_⟩, fun f hf => ?_, ?_⟩
  · refine (hk.block k (Nat.lt_of_lt_of_le hk' h.keeps.size) fun hm => ?_).trans (h.keeps.block k hk' hF')
    rcases (hce.2 k (hF k hm)).2 with h1 | h1
    · exact hF' h1
    · omega
  · rcases List.mem_append.1 hf with hf | hf
    · exact hold f (.inl hf)
    · rcases List.mem_cons.1 hf with rfl | hf
      · refine ⟨hp, fun g hg => ⟨(he g hg).1, ?_⟩⟩
        rcases (he g hg).2 with h1 | h1
        · exact (hce.2 g h1).2
        · exact .inr (Nat.le_trans h.keeps.size h1)
      · exact hold f (.inr hf)
  · have ne : ∀ f, f ∈ A ∨ f ∈ B → ∀ g, e'.has g → ¬ f.has g := by
      intro f hf g hg hfg
      rcases (he g hg).2 with h1 | h1
      · exact hfar f hf g hfg h1
      · have hm : f ∈ A ++ e :: B := by rcases hf with hf | hf <;> simp [hf]
        have := ((h.holds f hm).2 g hfg).1
        omega
    rw [List.pairwise_append, List.pairwise_cons]
    refine ⟨hA, ⟨fun f hf g hg => ne f (.inr hf) g hg, hB⟩, fun f hf k hk' g hg => ?_⟩
    rcases List.mem_cons.1 hk' with rfl | hk'
    · exact fun h1 => ne f (.inl hf) g h1 hg
    · exact hAB f hf k (by simp [hk']) g hg

/-- from every frame and world that are so known -/
structure At (C : Ctx) (K : Act → World → Prop) (E : Slots) (S : List Ent) : Prop where
  run : ∀ a w, Env C.n a E → Mem C w S → K a w
structure T (P : Program) (C : Ctx) (c : Code) (Q : Exit → Act → World → Prop) (E : Slots) (S : List Ent) : Prop where
  run : ∀ a w, Env C.n a E → Mem C w S → c.wp P Q a w
structure TL (P : Program) (C : Ctx) (l : List Oper) (Q : Exit → Act → World → Prop) (rest : List Oper) (E : Slots) (S : List Ent) : Prop where
  run : ∀ a w, Env C.n a E → Mem C w S → wpList P l.toArray Q rest a w

section
variable {P : Program} {C : Ctx} {Q : Exit → Act → World → Prop} {E : Slots} {S : List Ent} {l rest : List Oper}
theorem At.weak {K : Act → World → Prop} {E' : Slots} {S' : List Ent} (hE : SubE E E') (hS : S'.Sublist S) (h : At C K E' S') : At C K E S :=
  ⟨fun a w ha hw => h.run a w (ha.sub hE) (hw.sub hS)⟩
theorem T_seq {x y : Code} (h : T P C x (Exit.then (fun a w => y.wp P Q a w) Q) E S) : T P C (.seq x y) Q E S := ⟨fun a w ha hw => wp_seq (h.run a w ha hw)⟩
theorem T_block {id : Nat} {c : Code} (h : T P C c (Exit.inBlock id Q) E S) : T P C (.block id c) Q E S := ⟨fun a w ha hw => wp_block (h.run a w ha hw)⟩
theorem T_ret (h : At C (Q .ret) E S) : T P C .ret Q E S := ⟨fun a w ha hw => wp_ret (h.run a w ha hw)⟩
theorem T_skip (h : At C (Q .normal) E S) : T P C .skip Q E S := ⟨fun a w ha hw => wp_skip (h.run a w ha hw)⟩
theorem T_exit {id : Nat} (h : At C (Q (.exit id)) E S) : T P C (.exit id) Q E S := ⟨fun a w ha hw => wp_exit (h.run a w ha hw)⟩
theorem T_region {id : Nat} (h : TL P C l Q l E S) : T P C (.region id l.toArray false) Q E S := ⟨fun a w ha hw => wp_region_lit (h.run a w ha hw)⟩
theorem TL_nil (h : At C (Q .normal) E S) : TL P C l Q [] E S := ⟨fun a w ha hw => wpList_nil (h.run a w ha hw)⟩
theorem At_then {y : Code} {Q' : Exit → Act → World → Prop} (h : T P C y Q E S) : At C (Exit.then (fun a w => y.wp P Q a w) Q' .normal) E S := ⟨h.run⟩
theorem At_then_exit {K : Act → World → Prop} {id : Nat} (h : At C (Q (.exit id)) E S) : At C (Exit.then K Q (.exit id)) E S := h
theorem At_then_ret {K : Act → World → Prop} (h : At C (Q .ret) E S) : At C (Exit.then K Q .ret) E S := h
theorem At_block {id : Nat} (h : At C (Q .normal) E S) : At C (Exit.inBlock id Q .normal) E S := h
theorem At_block_ret {id : Nat} (h : At C (Q .ret) E S) : At C (Exit.inBlock id Q .ret) E S := h
theorem At_block_exit {id : Nat} (h : At C (Q .normal) E S) : At C (Exit.inBlock id Q (.exit id)) E S := by
  refine ⟨fun a w ha hw => ?_⟩; simp only [Exit.inBlock, if_true]; exact h.run a w ha hw
theorem At_block_past {id k : Nat} (hk : Nat.beq k id = false) (h : At C (Q (.exit k)) E S) : At C (Exit.inBlock id Q (.exit k)) E S := by
  refine ⟨fun a w ha hw => ?_⟩
  have : ¬ k = id := fun e => by subst e; simp at hk
  simp only [Exit.inBlock, if_neg this]; exact h.run a w ha hw
theorem T_cond {c : Operand} {x y : Code} {b : Bool} (hc : evo E c = some (.bool b)) (ht : b = true → T P C x Q E S) (hf : b = false → T P C y Q E S) : T P C (.cond c x y) Q E S :=
  ⟨fun a w ha hw => wp_cond_split (ha.evo hc) (fun h => (ht h).run a w ha hw) (fun h => (hf h).run a w ha hw)⟩
/-- the end of a loop's round -/
def Rounds {X : Type} (C : Ctx) (I : X → Slots) (J : X → List Ent) (pre : X → Prop) (μ : X → Nat) (x : X) (a : Act) (w : World) : Prop := ∃ x', pre x' ∧ μ x' < μ x ∧ Env C.n a (I x') ∧ Mem C w (J x')
theorem T_loop {X : Type} (I : X → Slots) (J : X → List Ent) (pre : X → Prop) (μ : X → Nat) {body : Code} (x0 : X) (h0 : pre x0) (hE : SubE E (I x0)) (hS : ∀ w, Mem C w S → Mem C w (J x0))
    (hr : ∀ x, pre x → T P C body (Exit.then (Rounds C I J pre μ x) Q) (I x) (J x)) : T P C (.loop body) Q E S := by
  refine ⟨fun a w ha hw b k cs => ?_⟩
  have key : ∀ n x a w, μ x = n → pre x → Env C.n a (I x) → Mem C w (J x) →
      ∃ e a' w', Q e a' w' ∧ Arrives P (lone (b.at a (.code body :: .inLoop body :: k)) cs w) b k cs e a' w' := by
    intro n
    induction n using Nat.strongRecOn with
    | _ n ih =>
      intro x a w hn hp ha hw
      obtain ⟨e, a₁, w₁, hq, harr⟩ := (hr x hp).run a w ha hw b (.inLoop body :: k) cs
      cases e with
      | normal =>
        obtain ⟨x', hp', hlt, ha', hw'⟩ := hq
        obtain ⟨e₂, a₂, w₂, hq₂, harr₂⟩ := ih (μ x') (hn ▸ hlt) x' a₁ w₁ rfl hp' ha' hw'
        exact ⟨e₂, a₂, w₂, hq₂, .of_steps (Steps.trans harr (.one step_inLoop)) harr₂⟩
      | exit id => exact ⟨_, a₁, w₁, hq, .pass (x := .inLoop body) rfl (fun _ _ => .inl (by simp)) harr⟩
      | goto l => exact ⟨_, a₁, w₁, hq, .pass (x := .inLoop body) rfl (fun _ _ => .inl (by simp)) harr⟩
      | ret => exact ⟨_, a₁, w₁, hq, .pass (x := .inLoop body) rfl (fun _ _ => .inl (by simp)) harr⟩
      | panic ch => exact ⟨_, a₁, w₁, hq, .pass (x := .inLoop body) rfl (fun _ _ => .inl (by simp)) harr⟩
      | outgrown => exact ⟨_, a₁, w₁, hq, .pass (x := .inLoop body) rfl (fun _ _ => .inl (by simp)) harr⟩
  obtain ⟨e, a', w', hq, harr⟩ := key _ x0 a w rfl h0 (ha.sub hE) (hS w hw)
  exact ⟨e, a', w', hq, .of_steps (.one step_loop) harr⟩
theorem At_rounds {X : Type} {I : X → Slots} {J : X → List Ent} {pre : X → Prop} {μ : X → Nat} {x : X} (x' : X) (hp : pre x') (hμ : μ x' < μ x) (hE : SubE E (I x')) (hS : ∀ w, Mem C w S → Mem C w (J x')) :
    At C (Exit.then (Rounds C I J pre μ x) Q .normal) E S := ⟨fun a w ha hw => ⟨x', hp, hμ, ha.sub hE, hS w hw⟩⟩
theorem At.mem {K : Act → World → Prop} {S' : List Ent} (hS : ∀ w, Mem C w S → Mem C w S') (h : At C K E S') : At C K E S := ⟨fun a w ha hw => h.run a w ha (hS w hw)⟩
theorem T_mem {c : Code} {S' : List Ent} (hS : ∀ w, Mem C w S → Mem C w S') (h : T P C c Q E S') : T P C c Q E S := ⟨fun a w ha hw => h.run a w ha (hS w hw)⟩
end
end Go.Proofs.YtjdckepbihcgfaaGreatDoor

namespace Go.Proofs.YtjdckepbihcgfaaGreatDoor
open Go.RowKit

section
variable {P : Program} {C : Ctx} {Q : Exit → Act → World → Prop} {E : Slots} {S : List Ent} {l rest : List Oper}
variable {d ty ty2 : Nat} {ps : String} {af : Array Edge}

/-- an operation carried out: what is known behind it -/
def ES (P : Program) (C : Ctx) (E : Slots) (S : List Ent) (o : Oper) (N : Slots → List Ent → Prop) : Prop :=
  ∀ (a : Act) (w : World) (K : Act → World → Prop) (Q : Exit → Act → World → Prop), Env C.n a E → Mem C w S → (∀ a' w' E' S', N E' S' → Env C.n a' E' → Mem C w' S' → K a' w') → o.wp P a w K Q
theorem TL_e {o : Oper} {N : Slots → List Ent → Prop} (he : ES P C E S o N) (hg : o.guard = none) (h : ∀ E' S', N E' S' → TL P C l Q rest E' S') : TL P C l Q (o :: rest) E S := by
  refine ⟨fun a w ha hw => wpList_plain hg fun K hK => he a w K Q ha hw fun a' w' E' S' hN ha' hw' => hK _ _ ((h E' S' hN).run _ _ ha' hw')⟩
variable {g0 : Option (Nat × Bool)}
/-- an operation that leaves a value (and memory) -/
theorem ES_core {op : Op} (Φ : Value → List Ent → Prop)
    (hr : ∀ a w, Env C.n a E → Mem C w S → ∃ v w' S', (execOp a.eval ⟨some d, op, ty, ps, af, g0⟩).run P w = .ok (.value v) w' ∧ Mem C w' S' ∧ Φ v S')
    (hd : Nat.ble (d + 1) C.n = true) : ES P C E S ⟨some d, op, ty, ps, af, g0⟩ (fun E' S' => ∃ v, Φ v S' ∧ E' = (d, v) :: E) := by
  intro a w K Q ha hw hK
  obtain ⟨v, w', S', h1, h2, h3⟩ := hr a w ha hw
  unfold Oper.wp
  rw [h1]
  exact hK _ _ _ _ ⟨v, h3, rfl⟩ (ha.put hd v) h2
theorem ES_skip {op : Op} (Φ : List Ent → Prop)
    (hr : ∀ a w, Env C.n a E → Mem C w S → ∃ w' S', (execOp a.eval ⟨none, op, ty, ps, af, g0⟩).run P w = .ok .skip w' ∧ Mem C w' S' ∧ Φ S') : ES P C E S ⟨none, op, ty, ps, af, g0⟩ (fun E' S' => Φ S' ∧ E' = E) := by
  intro a w K Q ha hw hK
  obtain ⟨w', S', h1, h2, h3⟩ := hr a w ha hw
  unfold Oper.wp
  rw [h1]
  exact hK _ _ _ _ ⟨h3, rfl⟩ ha h2
theorem ES_enter {op : Op} {f : FuncId} {args : Array Value} (Φ : Value → List Ent → Prop)
    (hr : ∀ a w, Env C.n a E → (execOp a.eval ⟨some d, op, ty, ps, af, g0⟩).run P w = .ok (.enter f args) w)
    (hc : ∀ w, Mem C w S → Calls P f args w fun e w' => ∃ v S', e = .returned v ∧ Mem C w' S' ∧ Φ v S')
    (hd : Nat.ble (d + 1) C.n = true) : ES P C E S ⟨some d, op, ty, ps, af, g0⟩ (fun E' S' => ∃ v, Φ v S' ∧ E' = (d, v) :: E) := by
  intro a w K Q ha hw hK
  unfold Oper.wp
  rw [hr a w ha]
  simp only [Oper.upon]
  refine (hc w hw).mono ?_
  rintro e w' ⟨v, S', rfl, h2, h3⟩
  exact hK _ _ _ _ ⟨v, h3, rfl⟩ (ha.put hd v) h2
theorem ES.weak {o : Oper} {N N' : Slots → List Ent → Prop} (h : ES P C E S o N) (hN : ∀ E' S', N E' S' → N' E' S') : ES P C E S o N' :=
  fun a w K Q ha hw hK => h a w K Q ha hw fun a' w' E' S' hn ha' hw' => hK a' w' E' S' (hN E' S' hn) ha' hw'
theorem TL_pure {op : Op} (v : Value) (hr : ∀ a w, Env C.n a E → Mem C w S → (execOp a.eval ⟨some d, op, ty, ps, af, none⟩).run P w = .ok (.value v) w)
    (hd : Nat.ble (d + 1) C.n = true) (h : TL P C l Q rest ((d, v) :: E) S) : TL P C l Q (⟨some d, op, ty, ps, af, none⟩ :: rest) E S :=
  TL_e (ES_core (fun u S' => u = v ∧ S' = S) (fun a w ha hw => ⟨v, w, S, hr a w ha hw, hw, rfl, rfl⟩) hd) rfl (by rintro _ _ ⟨_, ⟨rfl, rfl⟩, rfl⟩; exact h)

/-- an operation that leaves memory alone and yields the value -/
def QS (P : Program) (C : Ctx) (E : Slots) (S : List Ent) (op : Op) (ty : Nat) (v : Value) : Prop :=
  ∀ (dst : Option Tmp) (ps : String) (af : Array Edge) (g : Option (Nat × Bool)) a w, Env C.n a E → Mem C w S → (execOp a.eval ⟨dst, op, ty, ps, af, g⟩).run P w = .ok (.value v) w
theorem QS.of {op : Op} {v : Value} (h : ∀ {dst : Option Tmp} {ps : String} {af : Array Edge} {g : Option (Nat × Bool)} a w, Env C.n a E → Mem C w S → (execOp a.eval ⟨dst, op, ty, ps, af, g⟩).run P w = .ok (.value v) w) : QS P C E S op ty v :=
  fun _ _ _ _ a w ha hw => h a w ha hw
theorem QS.sub {op : Op} {v : Value} {S' : List Ent} (h : QS P C E S' op ty v) (hs : S'.Sublist S) : QS P C E S op ty v :=
  fun _ _ _ _ a w ha hw => h _ _ _ _ a w ha (hw.sub hs)
theorem TL_q {op : Op} {v : Value} (hq : QS P C E S op ty v) (hd : Nat.ble (d + 1) C.n = true) (h : TL P C l Q rest ((d, v) :: E) S) : TL P C l Q (⟨some d, op, ty, ps, af, none⟩ :: rest) E S :=
  TL_pure v (fun a w ha hw => hq _ _ _ _ a w ha hw) hd h

theorem bnt {b : Bool} (h : (!b) = true) : b = false := by cases b; rfl; cases h
theorem bnf {b : Bool} (h : (!b) = false) : b = true := by cases b; cases h; rfl
theorem band_dec {p q : Prop} [Decidable p] [Decidable q] (h : (decide p && decide q) = true) : p ∧ q := by
  rw [Bool.and_eq_true] at h; exact ⟨of_decide_eq_true h.1, of_decide_eq_true h.2⟩
theorem band_decF {p q : Prop} [Decidable p] [Decidable q] (h : (decide p && decide q) = false) : ¬ p ∨ ¬ q := by
  rw [Bool.and_eq_false_iff] at h; exact h.imp of_decide_eq_false of_decide_eq_false
theorem bor_dec {p q : Prop} [Decidable p] [Decidable q] (h : (decide p || decide q) = true) : p ∨ q := by
  rw [Bool.or_eq_true] at h; exact h.imp of_decide_eq_true of_decide_eq_true
theorem bor_decF {p q : Prop} [Decidable p] [Decidable q] (h : (decide p || decide q) = false) : ¬ p ∧ ¬ q := by
  rw [Bool.or_eq_false_iff] at h; exact ⟨of_decide_eq_false h.1, of_decide_eq_false h.2⟩
/-! Guards -/
theorem imp_lit1 {p : Prop} (h : p) : true = true → p := fun _ => h
theorem imp_lit0 {p : Prop} : false = true → p := fun h => by cases h
def dstAt : List Oper → Nat → Option Tmp
  | [], _ => none
  | o :: _, 0 => o.dst
  | _ :: l, i + 1 => dstAt l i
theorem dstAt_eq : ∀ (l : List Oper) (i : Nat), (l[i]?).bind (·.dst) = dstAt l i
  | [], i => by simp [dstAt]
  | o :: l, 0 => by simp [dstAt]
  | o :: l, i + 1 => by simpa [dstAt] using dstAt_eq l i
theorem yielded_at {a : Act} {j t : Nat} {b : Bool} (ha : Env C.n a E) (hj : dstAt l j = some t) (ht : look t E = some (.bool b)) : yielded l.toArray a.tmps j = some b := by
  have := ha.2.2 t _ ht
  simp [yielded, dstAt_eq, hj, this]
theorem yielded_undef {a : Act} {j t : Nat} (ha : Env C.n a E) (hj : dstAt l j = some t) (ht : look t E = some undef) : yielded l.toArray a.tmps j = none := by
  have := ha.2.2 t _ ht
  simp [yielded, dstAt_eq, hj, this, undef]
/-- the guard says no -/
theorem TL_no {op : Op} {j t : Nat} {b want : Bool} (hj : dstAt l j = some t) (ht : look t E = some (.bool b)) (hb : b = !want) (hd : Nat.ble (d + 1) C.n = true)
    (h : TL P C l Q rest ((d, undef) :: E) S) : TL P C l Q (⟨some d, op, ty, ps, af, some (j, want)⟩ :: rest) E S := by
  refine ⟨fun a w ha hw => ?_⟩
  refine wpList_skip ?_ (h.run _ _ (ha.put hd undef) hw)
  simp only [Region.wanted, yielded_at ha hj ht, hb]
  cases want <;> rfl
theorem TL_no_undef {op : Op} {j t : Nat} {want : Bool} (hj : dstAt l j = some t) (ht : look t E = some undef) (hd : Nat.ble (d + 1) C.n = true)
    (h : TL P C l Q rest ((d, undef) :: E) S) : TL P C l Q (⟨some d, op, ty, ps, af, some (j, want)⟩ :: rest) E S := by
  refine ⟨fun a w ha hw => ?_⟩
  refine wpList_skip ?_ (h.run _ _ (ha.put hd undef) hw)
  simp only [Region.wanted, yielded_undef ha hj ht]
  rfl
/-- the guard says yes -/
theorem TL_yes {op : Op} {dst : Option Tmp} {j t : Nat} {b want : Bool} (hj : dstAt l j = some t) (ht : look t E = some (.bool b)) (hb : b = want)
    (h : TL P C l Q (⟨dst, op, ty, ps, af, none⟩ :: rest) E S) : TL P C l Q (⟨dst, op, ty, ps, af, some (j, want)⟩ :: rest) E S := by
  refine ⟨fun a w ha hw => ?_⟩
  have := h.run a w ha hw
  unfold wpList at this ⊢
  rw [if_pos (by simp only [Region.wanted, yielded_at ha hj ht, hb]; simp)]
  rw [if_pos (by simp [Region.wanted])] at this
  rcases this with h1 | h1
  · exact .inl h1
  · exact .inr h1
/-- what guards is decided -/
theorem TL_guard {op : Op} {dst : Option Tmp} {j t : Nat} {b want : Bool} (hj : dstAt l j = some t) (ht : look t E = some (.bool b))
    (h1 : b = true → TL P C l Q (⟨dst, op, ty, ps, af, some (j, want)⟩ :: rest) ((t, .bool true) :: E) S)
    (h0 : b = false → TL P C l Q (⟨dst, op, ty, ps, af, some (j, want)⟩ :: rest) ((t, .bool false) :: E) S) : TL P C l Q (⟨dst, op, ty, ps, af, some (j, want)⟩ :: rest) E S := by
  refine ⟨fun a w ha hw => ?_⟩
  cases hb : b
  · exact (h0 hb).run a w (ha.same ht (by rw [hb])) hw
  · exact (h1 hb).run a w (ha.same ht (by rw [hb])) hw

/-! Moves, numbers, tests -/
section
variable {x y c : Operand} {v u : Value}
theorem QS_move (hx : evo E x = some v) : QS P C E S (.move x) ty (v) :=
  QS.of (fun a w ha _ => by simp [execOp, ha.evo hx])
theorem QS_assign (hx : evo E x = some v) : QS P C E S (.assign x) ty (v) :=
  QS.of (fun a w ha _ => by simp [execOp, ha.evo hx])
theorem QS_pick_true {b : Bool} (hc : evo E c = some (.bool b)) (hb : b = true) (hx : evo E x = some v) : QS P C E S (.pick c x y) ty (v) :=
  QS.of (fun a w ha _ => by subst hb; simp [execOp, ha.evo hx, ha.evo hc, asBool, Sem.run])
theorem QS_pick_false {b : Bool} (hc : evo E c = some (.bool b)) (hb : b = false) (hx : evo E y = some v) : QS P C E S (.pick c x y) ty (v) :=
  QS.of (fun a w ha _ => by subst hb; simp [execOp, ha.evo hx, ha.evo hc, asBool, Sem.run])
theorem QS_pick {b : Bool} (hc : evo E c = some (.bool b)) (hx : evo E x = some v) (hy : evo E y = some u) : QS P C E S (.pick c x y) ty (if b then v else u) :=
  QS.of (fun a w ha _ => by cases b <;> simp [execOp, ha.evo hx, ha.evo hy, ha.evo hc, asBool, Sem.run])
theorem QS_pick_bool {b b1 b2 : Bool} (hc : evo E c = some (.bool b)) (hx : evo E x = some (.bool b1)) (hy : evo E y = some (.bool b2)) : QS P C E S (.pick c x y) ty (.bool (if b then b1 else b2)) :=
  QS.of (fun a w ha _ => by cases b <;> simp [execOp, ha.evo hx, ha.evo hy, ha.evo hc, asBool, Sem.run])
theorem QS_not {b : Bool} (hx : evo E x = some (.bool b)) : QS P C E S (.unOp .not ty2 x) ty (.bool (!b)) :=
  QS.of (fun a w ha _ => by simp [execOp, ha.evo hx, Op.unary])
variable {k : IntKind} {m n : Int} {ty3 : Nat}
theorem binInt {dst : Option Tmp} {ps : String} {af : Array Edge} {g : Option (Nat × Bool)} {op : BinOp} {t : TypeId} {a : Act} {w : World} (ha : Env C.n a E) (hx : evo E x = some (.int k m)) (hy : evo E y = some (.int k n)) (r : Value)
    (hr : (binOp op t (.int k m) (.int k n)).run P w = .ok r w) : (execOp a.eval ⟨dst, .binOp op t x y ty3, ty, ps, af, g⟩).run P w = .ok (.value r) w := by
  unfold execOp
  simp only [ha.evo hx, ha.evo hy]
  have : (eqGuard op t x y (.int k m) (.int k n)).run P w = .ok () w := by
    unfold eqGuard
    cases op <;> rfl
  simp only [Sem.run_bind, this, Result.andThen_ok, hr]
  rfl
section
variable (hx : evo E x = some (.int k m)) (hy : evo E y = some (.int k n)) 
include hx hy
theorem QS_lss : QS P C E S (.binOp .lss ty2 x y ty3) ty (.bool (decide (m < n))) := QS.of (fun a w ha _ => binInt ha hx hy _ (by simp [binOp, Op.intCmp]))
theorem QS_leq : QS P C E S (.binOp .leq ty2 x y ty3) ty (.bool (decide (m ≤ n))) := QS.of (fun a w ha _ => binInt ha hx hy _ (by simp [binOp, Op.intCmp]))
theorem QS_gtr : QS P C E S (.binOp .gtr ty2 x y ty3) ty (.bool (decide (n < m))) := QS.of (fun a w ha _ => binInt ha hx hy _ (by simp [binOp, Op.intCmp]))
theorem QS_geq : QS P C E S (.binOp .geq ty2 x y ty3) ty (.bool (decide (n ≤ m))) := QS.of (fun a w ha _ => binInt ha hx hy _ (by simp [binOp, Op.intCmp]))
theorem QS_eql : QS P C E S (.binOp .eql ty2 x y ty3) ty (.bool (decide (m = n))) :=
  QS.of (fun a w ha _ => binInt ha hx hy _ (by simp [binOp, Op.intCmp]; rfl))
theorem QS_neq : QS P C E S (.binOp .neq ty2 x y ty3) ty (.bool (!decide (m = n))) :=
  QS.of (fun a w ha _ => binInt ha hx hy _ (by simp [binOp, Op.intCmp]; rfl))
end
section
variable (hx : evo E x = some (.int .i64 m)) (hy : evo E y = some (.int .i64 n))
include hx hy
theorem QS_add (h1 : -9223372036854775808 ≤ m + n) (h2 : m + n ≤ 9223372036854775807) : QS P C E S (.binOp .add ty2 x y ty3) ty (.int .i64 (m + n)) :=
  QS.of (fun a w ha _ => binInt ha hx hy _ (by simp [binOp, Op.intArith, IntWalk.i64_in _ ⟨h1, h2⟩]))
theorem QS_sub (h1 : -9223372036854775808 ≤ m - n) (h2 : m - n ≤ 9223372036854775807) : QS P C E S (.binOp .sub ty2 x y ty3) ty (.int .i64 (m - n)) :=
  QS.of (fun a w ha _ => binInt ha hx hy _ (by simp [binOp, Op.intArith, IntWalk.i64_in _ ⟨h1, h2⟩]))
theorem QS_mul (h1 : -9223372036854775808 ≤ m * n) (h2 : m * n ≤ 9223372036854775807) : QS P C E S (.binOp .mul ty2 x y ty3) ty (.int .i64 (m * n)) :=
  QS.of (fun a w ha _ => binInt ha hx hy _ (by simp [binOp, Op.intArith, IntWalk.i64_in _ ⟨h1, h2⟩]))
end
theorem QS_max (hx : evo E x = some (.int k m)) (hy : evo E y = some (.int k n))  {ats : Array TypeId} : QS P C E S (.call ⟨.builtin .max, #[x, y], ats⟩) ty (.int k (max m n)) :=
  QS.of (fun a w ha _ => by
    simp only [execOp, resolve, invoke, builtin, List.map_toArray, List.map_cons, List.map_nil, ha.evo hx, ha.evo hy, Sem.run_bind, Sem.run_pure, Result.andThen_ok, run_max_int2]
    congr 3
    simp only [Int.max_def]; split <;> split <;> omega)
theorem QS_min (hx : evo E x = some (.int k m)) (hy : evo E y = some (.int k n))  {ats : Array TypeId} : QS P C E S (.call ⟨.builtin .min, #[x, y], ats⟩) ty (.int k (min m n)) :=
  QS.of (fun a w ha _ => by
    simp only [execOp, resolve, invoke, builtin, List.map_toArray, List.map_cons, List.map_nil, ha.evo hx, ha.evo hy, Sem.run_bind, Sem.run_pure, Result.andThen_ok, run_min_int2]
    congr 3
    simp only [Int.min_def]; split <;> split <;> omega)
def nthV : List Value → Nat → Option Value
  | [], _ => none
  | v :: _, 0 => some v
  | _ :: vs, i + 1 => nthV vs i
theorem nthV_eq : ∀ (vs : List Value) (i : Nat), vs[i]? = nthV vs i
  | [], i => by simp [nthV]
  | v :: vs, 0 => by simp [nthV]
  | v :: vs, i + 1 => by simpa [nthV] using nthV_eq vs i
theorem QS_extract {i : Nat} {vs : List Value} (hx : evo E x = some (.tuple vs.toArray)) (hi : nthV vs i = some v) : QS P C E S (.extract x i) ty (v) :=
  QS.of (fun a w ha _ => by simp [execOp, ha.evo hx, Instr.extract, nthV_eq, hi])
theorem QS_nilCheck {ad : Addr} (hx : evo E x = some (.pointer (some ad))) : QS P C E S (.nilCheck x) ty (.pointer (some ad)) :=
  QS.of (fun a w ha _ => by simp [execOp, ha.evo hx])
end

/-! Types -/
class FieldAt (P : Program) (s f : Nat) (off : outParam Nat) : Prop where
  run : ∀ (g o : Nat) (w : World), (Instr.fieldAt s (.pointer (some ⟨g, o, none⟩)) f).run P w = .ok (.pointer (some ⟨g, o + off, none⟩)) w
class SliceOf (P : Program) (t : Nat) (e m : outParam Nat) : Prop where
  und : P.underlying t = some (.slice e)
  size : ∀ w, (sizeOf e).run P w = .ok m w
class ArrayOf (P : Program) (t : Nat) (n e m : outParam Nat) : Prop where
  und : P.underlying t = some (.array n e)
  size : ∀ w, (sizeOf e).run P w = .ok m w
class OneCell (P : Program) (t : Nat) : Prop where
  agg : ∀ w, (isAgg t).run P w = .ok false w
  size : ∀ w, (sizeOf t).run P w = .ok 1 w
class AggOf (P : Program) (t : Nat) (m : outParam Nat) : Prop where
  agg : ∀ w, (isAgg t).run P w = .ok true w
  size : ∀ w, (sizeOf t).run P w = .ok m w
class ZeroOf (P : Program) (t : Nat) (z : outParam Value) : Prop where
  run : ∀ w, (zeroValue t).run P w = .ok z w
/-- a map whose keys are ints -/
class MapOf (P : Program) (t : Nat) (k e : outParam Nat) : Prop where
  und : P.underlying t = some (.map k e)
  key : P.underlying k = some (.int .i64)
class IntOf (P : Program) (t : Nat) (k : outParam IntKind) : Prop where
  und : P.underlying t = some (.int k)

theorem add_mk (g o i : Nat) : (⟨g, o, none⟩ : Addr).add i = ⟨g, o + i, none⟩ := Addr.add_mid g o i
section
variable {x y z : Operand} {v u : Value} {g o c n m e len i f off s : Nat}
theorem QS_field {o' : Nat} [FieldAt P s f off] (hx : evo E x = some (.pointer (some ⟨g, o, none⟩))) (ho : o + off = o') : QS P C E S (.fieldAddr s x f) ty (.pointer (some ⟨g, o', none⟩)) :=
  QS.of (fun a w ha _ => by subst ho; simp [execOp, ha.evo hx, FieldAt.run])
theorem off_z (o m : Nat) : o + 0 * m = o := by omega
theorem off_01 (j : Nat) : 0 + j * 1 = j := by omega
theorem off_0m (j m : Nat) : 0 + j * m = j * m := by omega
theorem off_o1 (o j : Nat) : o + j * 1 = o + j := by omega
/-- an index that is a letter of Nat -/
theorem QS_index [hs : SliceOf P s e m] {k : IntKind} {j o' : Nat} (hx : evo E x = some (.slice (some ⟨g, o, none⟩) len c)) (hy : evo E y = some (.int k (j : Nat))) (hj : j < len) (ho : o + j * m = o') : QS P C E S (.indexAddr s x y) ty (.pointer (some ⟨g, o', none⟩)) :=
  QS.of (fun a w ha _ => by
    have he : P.elem s = e := by simp [Program.elem, hs.und]
    have hr := run_indexAt_slice (P := P) w s ⟨g, o, none⟩ len c k (j : Int) (by rw [he]; exact hs.und)
    rw [if_pos ⟨by omega, by omega⟩, he, hs.size w] at hr
    simp only [Result.andThen_ok, Int.toNat_natCast, add_mk] at hr
    subst ho
    simp [execOp, ha.evo hx, ha.evo hy, hr])
theorem QS_indexZ [hs : SliceOf P s e m] {k : IntKind} {j : Int} {o' : Nat} (hx : evo E x = some (.slice (some ⟨g, o, none⟩) len c)) (hy : evo E y = some (.int k j)) (h0 : 0 ≤ j) (hj : j < len) (ho : o + j.toNat * m = o') : QS P C E S (.indexAddr s x y) ty (.pointer (some ⟨g, o', none⟩)) :=
  QS_index (j := j.toNat) hx (by rw [hy]; congr; omega) (by omega) ho
theorem QS_indexA [hs : ArrayOf P s n e m] {k : IntKind} {j o' : Nat} (hx : evo E x = some (.pointer (some ⟨g, o, none⟩))) (hy : evo E y = some (.int k (j : Nat))) (hj : j < n) (ho : o + j * m = o') : QS P C E S (.indexAddr s x y) ty (.pointer (some ⟨g, o', none⟩)) :=
  QS.of (fun a w ha _ => by
    have he : P.elem s = e := by simp [Program.elem, hs.und]
    have hn : P.arrayLen s = n := by simp [Program.arrayLen, hs.und]
    have hr := run_indexAt_array (P := P) w s ⟨g, o, none⟩ k (j : Int) (by rw [he, hn]; exact hs.und)
    rw [hn, if_pos ⟨by omega, by omega⟩, he, hs.size w] at hr
    simp only [Result.andThen_ok, Int.toNat_natCast, add_mk] at hr
    subst ho
    simp [execOp, ha.evo hx, ha.evo hy, hr])
theorem QS_indexAZ [hs : ArrayOf P s n e m] {k : IntKind} {j : Int} {o' : Nat} (hx : evo E x = some (.pointer (some ⟨g, o, none⟩))) (hy : evo E y = some (.int k j)) (h0 : 0 ≤ j) (hj : j < n) (ho : o + j.toNat * m = o') : QS P C E S (.indexAddr s x y) ty (.pointer (some ⟨g, o', none⟩)) :=
  QS_indexA (j := j.toNat) hx (by rw [hy]; congr; omega) (by omega) ho
class IntLit (z : Int) (n : outParam Nat) : Prop where
  eq : z = n
instance : IntLit 0 0 := ⟨rfl⟩
instance : IntLit 1 1 := ⟨rfl⟩
instance : IntLit 2 2 := ⟨rfl⟩
instance : IntLit 3 3 := ⟨rfl⟩
instance : IntLit 4 4 := ⟨rfl⟩
instance : IntLit 5 5 := ⟨rfl⟩
instance : IntLit 6 6 := ⟨rfl⟩
instance : IntLit 7 7 := ⟨rfl⟩
instance : IntLit 8 8 := ⟨rfl⟩
instance : IntLit 9 9 := ⟨rfl⟩
instance : IntLit 10 10 := ⟨rfl⟩
instance : IntLit 11 11 := ⟨rfl⟩
instance : IntLit 12 12 := ⟨rfl⟩
instance : IntLit 13 13 := ⟨rfl⟩
instance : IntLit 14 14 := ⟨rfl⟩
instance : IntLit 15 15 := ⟨rfl⟩
instance : IntLit 16 16 := ⟨rfl⟩
theorem QS_indexL [hs : SliceOf P s e m] {k : IntKind} {j : Int} {jn o' : Nat} (hx : evo E x = some (.slice (some ⟨g, o, none⟩) len c)) (hy : evo E y = some (.int k j)) (hn : IntLit j jn) (hj : jn < len) (ho : o + jn * m = o') : QS P C E S (.indexAddr s x y) ty (.pointer (some ⟨g, o', none⟩)) :=
  QS_index (j := jn) hx (by rw [hy, hn.eq]) hj ho
theorem QS_indexAL [hs : ArrayOf P s n e m] {k : IntKind} {j : Int} {jn o' : Nat} (hx : evo E x = some (.pointer (some ⟨g, o, none⟩))) (hy : evo E y = some (.int k j)) (hn : IntLit j jn) (hj : jn < n) (ho : o + jn * m = o') : QS P C E S (.indexAddr s x y) ty (.pointer (some ⟨g, o', none⟩)) :=
  QS_indexA (j := jn) hx (by rw [hy, hn.eq]) hj ho
theorem QS_len [hs : SliceOf P s e m] {A : Option Addr} (hx : evo E x = some (.slice A len c)) : QS P C E S (.call ⟨.builtin .len, #[x], #[s]⟩) ty (.int .i64 len) :=
  QS.of (fun a w ha _ => by
    have he : P.elem s = e := by simp [Program.elem, hs.und]
    have hr := run_len_slice (P := P) w s ty A len c (by rw [he]; exact hs.und)
    simp [execOp, resolve, invoke, builtin, ha.evo hx, hr, goInt])
theorem QS_lenArray [hs : ArrayOf P s n e m] (hx : evo E x = some v) : QS P C E S (.call ⟨.builtin .len, #[x], #[s]⟩) ty (.int .i64 n) :=
  QS.of (fun a w ha _ => by
    have hr : (Builtin.len_ #[s] ty #[v]).run P w = .ok (goInt n) w := by
      simp [Builtin.len_, run_underlying hs.und]
    simp [execOp, resolve, invoke, builtin, ha.evo hx, hr, goInt])

/-! Loads and stores -/
/-- the load yields the value -/
def Lds (P : Program) (C : Ctx) (S : List Ent) (t : Nat) (ad : Addr) (v : Value) : Prop := ∀ w, Mem C w S → (loadVar t ad).run P w = .ok v w
theorem QS_load {ad : Addr} (hx : evo E x = some (.pointer (some ad))) (hl : Lds P C S s ad v) : QS P C E S (.load s x) ty (v) :=
  QS.of (fun a w ha hw => by simp [execOp, ha.evo hx, Instr.loadAt, Instr.sureAddr, hl w hw])
theorem Lds.one [hs : OneCell P s] {ad : Addr} (h : ∀ w, Mem C w S → w.cell? ad = some v) : Lds P C S s ad v := fun w hw => by
  simp [loadVar, hs.agg w, Sem.run, load, h w hw]
theorem Lds.agg [hs : AggOf P s m] {cs : List Value} (hlen : cs.length = m) (h : ∀ w, Mem C w S → ∀ j u, cs[j]? = some u → w.cell? ⟨g, o + j, none⟩ = some u) : Lds P C S s ⟨g, o, none⟩ (.agg cs.toArray) := fun w hw => by
  have := run_loadCells_list (P := P) (w := w) ⟨g, o, none⟩ cs (fun j u hu => by rw [add_mk]; exact h w hw j u hu)
  simp [loadVar, hs.agg w, hs.size w, ← hlen, this]
end
end
end Go.Proofs.YtjdckepbihcgfaaGreatDoor
