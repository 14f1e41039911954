/- A calculus of triples over slots and blocks: the rules of the walks. No condition. -/
import Derived.Test.YtppicbdaijiifaaBase
import Derived.Deep.MidRow
import Derived.Laws.AppendOwn
import Derived.IntWalk
set_option linter.unusedSimpArgs false
set_option linter.unusedVariables false
set_option linter.unusedSectionVars false
set_option linter.unnecessarySimpa false
namespace Go.Proofs.Ytppicbdaijiifaa
open Go.RowKit

abbrev Slots := List (Nat × Value)
def look (t : Nat) : Slots → Option Value
  | [] => none
  | (k, v) :: E => match Nat.beq k t with
    | true => some v
    | false => look t E
def evo (E : Slots) : Operand → Option Value
  | .tmp t => look t E
  | .const v => some v
  | .global g => some (.pointer (some ⟨g, 0, none⟩))
  | .func f => some (.func (.func f) #[] #[])
def Env (n : Nat) (a : Act) (E : Slots) : Prop := a.defers = [] ∧ a.tmps.size = n ∧ ∀ t v, look t E = some v → a.tmps[t]? = some v

section
variable {n : Nat} {a : Act} {E : Slots}
theorem Env.evo (h : Env n a E) {x : Operand} {v : Value} (hx : evo E x = some v) : a.eval x = v := by
  cases x with
  | tmp t =>
    have := h.2.2 t v hx
    simp [Act.eval, this]
  | const u => simpa [Go.Proofs.Ytppicbdaijiifaa.evo, Act.eval] using hx
  | global g => simpa [Go.Proofs.Ytppicbdaijiifaa.evo, Act.eval] using hx
  | func f => simpa [Go.Proofs.Ytppicbdaijiifaa.evo, Act.eval] using hx
theorem Env.put (h : Env n a E) {d : Nat} (hd : Nat.ble (d + 1) n = true) (v : Value) : Env n (a.put (some d) v) ((d, v) :: E) := by
  refine ⟨h.1, by simpa [Act.put] using h.2.1, fun t u hu => ?_⟩
  have hdn : d < n := Nat.le_of_ble_eq_true hd
  simp only [look] at hu
  by_cases e : d = t
  · subst e
    simp only [Nat.beq_refl, Option.some.injEq] at hu
    subst hu
    simp [Act.put, h.2.1, hdn]
  · have : Nat.beq d t = false := by
      rw [Bool.eq_false_iff]; intro hb; exact e (Nat.eq_of_beq_eq_true hb)
    rw [this] at hu
    simp only [Act.put]
    rw [Array.getElem?_setIfInBounds_ne e]
    exact h.2.2 t u hu
theorem Env.putNone (h : Env n a E) (v : Value) : Env n (a.put none v) E := h
theorem Env.sub {E' : Slots} (h : Env n a E) (hs : ∀ t v, look t E' = some v → look t E = some v) : Env n a E' := ⟨h.1, h.2.1, fun t v hv => h.2.2 t v (hs t v hv)⟩
/-- what a slot is known to hold may be said otherwise -/
theorem Env.same (h : Env n a E) {t : Nat} {v v' : Value} (hv : look t E = some v) (e : v = v') : Env n a ((t, v') :: E) := by
  refine ⟨h.1, h.2.1, fun k u hu => ?_⟩
  simp only [look] at hu
  split at hu
  · rename_i hb
    have := Nat.eq_of_beq_eq_true hb
    subst this
    cases hu
    exact h.2.2 _ _ (e ▸ hv)
  · exact h.2.2 k u hu
end

def SubE (E E' : Slots) : Prop := ∀ t v, look t E' = some v → look t E = some v
theorem SubE.nil (E : Slots) : SubE E [] := fun t v h => by cases h
theorem SubE.cons {E E' : Slots} {t : Nat} {v : Value} (hv : look t E = some v) (h : SubE E E') : SubE E ((t, v) :: E') := by
  intro k u hu
  simp only [look] at hu
  split at hu
  · rename_i hb
    have := Nat.eq_of_beq_eq_true hb
    subst this
    cases hu
    exact hv
  · exact h k u hu

/-- what is known of memory: of some blocks each (has; fin: they are these) -/
structure Ent where
  has : Nat → Prop
  fin : List Nat
  hfin : ∀ g, g ∈ fin ↔ has g
  p : World → Prop
  loc : ∀ w w' : World, (∀ g, has g → w'.heap[g]? = w.heap[g]?) → p w → p w'

structure Ctx where
  n : Nat
  F : List Nat
  w0 : World

/-- all blocks are kept but those of F -/
structure Keeps (F : List Nat) (w w' : World) : Prop where
  os : w'.os = w.os
  tape : w'.tape = w.tape
  output : w'.output = w.output
  size : w.heap.size ≤ w'.heap.size
  block : ∀ k, k < w.heap.size → k ∉ F → w'.heap[k]? = w.heap[k]?
theorem Keeps.refl (F : List Nat) (w : World) : Keeps F w w := ⟨rfl, rfl, rfl, Nat.le_refl _, fun _ _ _ => rfl⟩
theorem Keeps.below {w w' : World} (h : Keeps [] w w') : Below w.heap.size w w' := ⟨h.os, h.tape, h.output, h.size, fun k hk => h.block k hk (by simp)⟩
theorem Keeps.of_below {F : List Nat} {w w' : World} (h : Below w.heap.size w w') : Keeps F w w' := ⟨h.os, h.tape, h.output, h.size, fun k hk _ => h.block k hk⟩

structure Mem (C : Ctx) (w : World) (S : List Ent) : Prop where
  keeps : Keeps C.F C.w0 w
  holds : ∀ e ∈ S, e.p w ∧ ∀ g, e.has g → g < w.heap.size ∧ (g ∈ C.F ∨ C.w0.heap.size ≤ g)
  apart : S.Pairwise fun e f => ∀ g, e.has g → ¬ f.has g

section
variable {C : Ctx} {w w' : World} {S S' : List Ent} {e e' : Ent}
theorem Mem.nil (C : Ctx) : Mem C C.w0 [] := ⟨Keeps.refl _ _, by simp, .nil⟩
/-- a change that leaves all that is known alone -/
theorem Mem.keep {F : List Nat} (h : Mem C w S) (hk : Keeps F w w') (hF : ∀ g ∈ F, g ∈ C.F ∨ C.w0.heap.size ≤ g) (hS : ∀ e ∈ S, ∀ g, e.has g → g ∉ F) : Mem C w' S := by
  refine ⟨⟨hk.os.trans h.keeps.os, hk.tape.trans h.keeps.tape, hk.output.trans h.keeps.output, Nat.le_trans h.keeps.size hk.size, fun k hk' hF' => ?_⟩, fun e he => ?_, h.apart⟩
  · refine (hk.block k (Nat.lt_of_lt_of_le hk' h.keeps.size) fun hm => ?_).trans (h.keeps.block k hk' hF')
    rcases hF k hm with h1 | h1
    · exact hF' h1
    · omega
  · obtain ⟨h1, h2⟩ := h.holds e he
    refine ⟨e.loc w w' (fun g hg => hk.block g (h2 g hg).1 (hS e he g hg)) h1, fun g hg => ⟨Nat.lt_of_lt_of_le (h2 g hg).1 hk.size, (h2 g hg).2⟩⟩
theorem Mem.below (h : Mem C w S) (hb : Below w.heap.size w w') : Mem C w' S :=
  h.keep (F := []) (Keeps.of_below hb) (by simp) (by simp)
theorem Mem.drewN (h : Mem C w S) (k : Nat) : Mem C (w.drewN k) S := h.below (below_drewN' (Below.refl _ _) k)
theorem Mem.drew (h : Mem C w S) : Mem C w.drew S := h.below (Below.drew (Below.refl _ _))
theorem Mem.sub (h : Mem C w S) (hs : S'.Sublist S) : Mem C w S' := ⟨h.keeps, fun e he => h.holds e (hs.subset he), h.apart.sublist hs⟩
/-- what is known anew of a block that did not exist -/
theorem Mem.fresh {W : World} (h : Mem C W S) (hb : Below W.heap.size W w) (he : ∀ g, e.has g → W.heap.size ≤ g ∧ g < w.heap.size) (hp : e.p w) : Mem C w (e :: S) := by
  have h' := h.below hb
  refine ⟨h'.keeps, fun f hf => ?_, ?_⟩
  · rcases List.mem_cons.1 hf with rfl | hf
    · exact ⟨hp, fun k hk => ⟨(he k hk).2, .inr (Nat.le_trans h.keeps.size (he k hk).1)⟩⟩
    · exact h'.holds f hf
  · refine List.pairwise_cons.2 ⟨fun f hf k hk hk' => ?_, h'.apart⟩
    have := ((h.holds f hf).2 k hk').1
    have := (he k hk).1
    omega
theorem Mem.alloc (h : Mem C w S) (o : Obj) (hg : ∀ k, e.has k → some w.heap.size = some k) (hp : e.p (w.alloc o)) : Mem C (w.alloc o) (e :: S) :=
  h.fresh (bel_alloc (Below.refl _ _) o) (fun g hg' => by cases hg g hg'; exact ⟨Nat.le_refl _, by simp⟩) hp
end

/-- e stands in S; with e' in its place it is S' -/
inductive Upd : List Ent → Ent → Ent → List Ent → Prop
  | here (e e' : Ent) (S : List Ent) : Upd (e :: S) e e' (e' :: S)
  | there {S S' : List Ent} {e e' : Ent} (f : Ent) (h : Upd S e e' S') : Upd (f :: S) e e' (f :: S')
theorem Upd.mem {S S' : List Ent} {e e' : Ent} (h : Upd S e e' S') : e ∈ S := by
  induction h with
  | here => simp
  | there f _ ih => simp [ih]
theorem Upd.form {S S' : List Ent} {e e' : Ent} (h : Upd S e e' S') : ∃ A B, S = A ++ e :: B ∧ S' = A ++ e' :: B := by
  induction h with
  | here e e' S => exact ⟨[], S, rfl, rfl⟩
  | there f _ ih => obtain ⟨A, B, rfl, rfl⟩ := ih; exact ⟨f :: A, B, rfl, rfl⟩
theorem Mem.upd {C : Ctx} {w w' : World} {S S' : List Ent} {e e' : Ent} (h : Mem C w S) (hu : Upd S e e' S') {F : List Nat} (hk : Keeps F w w') (hF : ∀ g ∈ F, e.has g)
    (he : ∀ g, e'.has g → g < w'.heap.size ∧ (e.has g ∨ w.heap.size ≤ g)) (hp : e'.p w') : Mem C w' S' := by
  obtain ⟨A, B, rfl, rfl⟩ := hu.form
  have hap := h.apart
  rw [List.pairwise_append, List.pairwise_cons] at hap
  obtain ⟨hA, ⟨hB1, hB⟩, hAB⟩ := hap
  have hfar : ∀ f, f ∈ A ∨ f ∈ B → ∀ g, f.has g → ¬ e.has g := by
    intro f hf g hg hge
    rcases hf with hf | hf
    · exact hAB f hf e (by simp) g hg hge
    · exact hB1 f hf g hge hg
  have hold : ∀ f, f ∈ A ∨ f ∈ B → f.p w' ∧ ∀ g, f.has g → g < w'.heap.size ∧ (g ∈ C.F ∨ C.w0.heap.size ≤ g) := by
    intro f hf
    have hm : f ∈ A ++ e :: B := by rcases hf with hf | hf <;> simp [hf]
    obtain ⟨h1, h2⟩ := h.holds f hm
    refine ⟨f.loc w w' (fun g hg => hk.block g (h2 g hg).1 fun hgF => hfar f hf g hg (hF g hgF)) h1, fun g hg => ⟨Nat.lt_of_lt_of_le (h2 g hg).1 hk.size, (h2 g hg).2⟩⟩
  have hce := h.holds e (by simp)
  refine ⟨⟨hk.os.trans h.keeps.os, hk.tape.trans h.keeps.tape, hk.output.trans h.keeps.output, Nat.le_trans h.keeps.size hk.size, fun k hk' hF' => ?_⟩, fun f hf => ?_, ?_⟩
  · refine (hk.block k (Nat.lt_of_lt_of_le hk' h.keeps.size) fun hm => ?_).trans (h.keeps.block k hk' hF')
    rcases (hce.2 k (hF k hm)).2 with h1 | h1
    · exact hF' h1
    · omega
  · rcases List.mem_append.1 hf with hf | hf
    · exact hold f (.inl hf)
    · rcases List.mem_cons.1 hf with rfl | hf
      · refine ⟨hp, fun g hg => ⟨(he g hg).1, ?_⟩⟩
        rcases (he g hg).2 with h1 | h1
        · exact (hce.2 g h1).2
        · exact .inr (Nat.le_trans h.keeps.size h1)
      · exact hold f (.inr hf)
  · have ne : ∀ f, f ∈ A ∨ f ∈ B → ∀ g, e'.has g → ¬ f.has g := by
      intro f hf g hg hfg
      rcases (he g hg).2 with h1 | h1
      · exact hfar f hf g hfg h1
      · have hm : f ∈ A ++ e :: B := by rcases hf with hf | hf <;> simp [hf]
        have := ((h.holds f hm).2 g hfg).1
        omega
    rw [List.pairwise_append, List.pairwise_cons]
    refine ⟨hA, ⟨fun f hf g hg => ne f (.inr hf) g hg, hB⟩, fun f hf k hk' g hg => ?_⟩
    rcases List.mem_cons.1 hk' with rfl | hk'
    · exact fun h1 => ne f (.inl hf) g h1 hg
    · exact hAB f hf k (by simp [hk']) g hg

/-- from every frame and world that are so known -/
structure At (C : Ctx) (K : Act → World → Prop) (E : Slots) (S : List Ent) : Prop where
  run : ∀ a w, Env C.n a E → Mem C w S → K a w
structure T (P : Program) (C : Ctx) (c : Code) (Q : Exit → Act → World → Prop) (E : Slots) (S : List Ent) : Prop where
  run : ∀ a w, Env C.n a E → Mem C w S → c.wp P Q a w
structure TL (P : Program) (C : Ctx) (l : List Oper) (Q : Exit → Act → World → Prop) (rest : List Oper) (E : Slots) (S : List Ent) : Prop where
  run : ∀ a w, Env C.n a E → Mem C w S → wpList P l.toArray Q rest a w

section
variable {P : Program} {C : Ctx} {Q : Exit → Act → World → Prop} {E : Slots} {S : List Ent} {l rest : List Oper}
theorem At.weak {K : Act → World → Prop} {E' : Slots} {S' : List Ent} (hE : SubE E E') (hS : S'.Sublist S) (h : At C K E' S') : At C K E S :=
  ⟨fun a w ha hw => h.run a w (ha.sub hE) (hw.sub hS)⟩
theorem T_weak {c : Code} (E' : Slots) (S' : List Ent) (hE : SubE E E') (hS : S'.Sublist S) (h : T P C c Q E' S') : T P C c Q E S :=
  ⟨fun a w ha hw => h.run a w (ha.sub hE) (hw.sub hS)⟩
theorem T_seq {x y : Code} (h : T P C x (Exit.then (fun a w => y.wp P Q a w) Q) E S) : T P C (.seq x y) Q E S := ⟨fun a w ha hw => wp_seq (h.run a w ha hw)⟩
theorem T_block {id : Nat} {c : Code} (h : T P C c (Exit.inBlock id Q) E S) : T P C (.block id c) Q E S := ⟨fun a w ha hw => wp_block (h.run a w ha hw)⟩
theorem T_ret (h : At C (Q .ret) E S) : T P C .ret Q E S := ⟨fun a w ha hw => wp_ret (h.run a w ha hw)⟩
theorem T_skip (h : At C (Q .normal) E S) : T P C .skip Q E S := ⟨fun a w ha hw => wp_skip (h.run a w ha hw)⟩
theorem T_exit {id : Nat} (h : At C (Q (.exit id)) E S) : T P C (.exit id) Q E S := ⟨fun a w ha hw => wp_exit (h.run a w ha hw)⟩
theorem T_region {id : Nat} (h : TL P C l Q l E S) : T P C (.region id l.toArray false) Q E S := ⟨fun a w ha hw => wp_region_lit (h.run a w ha hw)⟩
theorem TL_nil (h : At C (Q .normal) E S) : TL P C l Q [] E S := ⟨fun a w ha hw => wpList_nil (h.run a w ha hw)⟩
theorem At_then {y : Code} {Q' : Exit → Act → World → Prop} (h : T P C y Q E S) : At C (Exit.then (fun a w => y.wp P Q a w) Q' .normal) E S := ⟨h.run⟩
theorem At_then_exit {K : Act → World → Prop} {id : Nat} (h : At C (Q (.exit id)) E S) : At C (Exit.then K Q (.exit id)) E S := h
theorem At_then_ret {K : Act → World → Prop} (h : At C (Q .ret) E S) : At C (Exit.then K Q .ret) E S := h
theorem At_block {id : Nat} (h : At C (Q .normal) E S) : At C (Exit.inBlock id Q .normal) E S := h
theorem At_block_ret {id : Nat} (h : At C (Q .ret) E S) : At C (Exit.inBlock id Q .ret) E S := h
theorem At_block_exit {id : Nat} (h : At C (Q .normal) E S) : At C (Exit.inBlock id Q (.exit id)) E S := by
  refine ⟨fun a w ha hw => ?_⟩; simp only [Exit.inBlock, if_true]; exact h.run a w ha hw
theorem At_block_past {id k : Nat} (hk : Nat.beq k id = false) (h : At C (Q (.exit k)) E S) : At C (Exit.inBlock id Q (.exit k)) E S := by
  refine ⟨fun a w ha hw => ?_⟩
  have : ¬ k = id := fun e => by subst e; simp at hk
  simp only [Exit.inBlock, if_neg this]; exact h.run a w ha hw
theorem T_cond {c : Operand} {x y : Code} {b : Bool} (hc : evo E c = some (.bool b)) (ht : b = true → T P C x Q E S) (hf : b = false → T P C y Q E S) : T P C (.cond c x y) Q E S :=
  ⟨fun a w ha hw => wp_cond_split (ha.evo hc) (fun h => (ht h).run a w ha hw) (fun h => (hf h).run a w ha hw)⟩
theorem T_cond_true {c : Operand} {x y : Code} (hc : evo E c = some (.bool true)) (ht : T P C x Q E S) : T P C (.cond c x y) Q E S :=
  ⟨fun a w ha hw => wp_cond_true (ha.evo hc) (ht.run a w ha hw)⟩
theorem T_cond_false {c : Operand} {x y : Code} (hc : evo E c = some (.bool false)) (hf : T P C y Q E S) : T P C (.cond c x y) Q E S :=
  ⟨fun a w ha hw => wp_cond_false (ha.evo hc) (hf.run a w ha hw)⟩

/-- the end of a loop's round -/
def Rounds {X : Type} (C : Ctx) (I : X → Slots) (J : X → List Ent) (pre : X → Prop) (μ : X → Nat) (x : X) (a : Act) (w : World) : Prop := ∃ x', pre x' ∧ μ x' < μ x ∧ Env C.n a (I x') ∧ Mem C w (J x')
theorem T_loop {X : Type} (I : X → Slots) (J : X → List Ent) (pre : X → Prop) (μ : X → Nat) {body : Code} (x0 : X) (h0 : pre x0) (hE : SubE E (I x0)) (hS : ∀ w, Mem C w S → Mem C w (J x0))
    (hr : ∀ x, pre x → T P C body (Exit.then (Rounds C I J pre μ x) Q) (I x) (J x)) : T P C (.loop body) Q E S := by
  refine ⟨fun a w ha hw b k cs => ?_⟩
  have key : ∀ n x a w, μ x = n → pre x → Env C.n a (I x) → Mem C w (J x) →
      ∃ e a' w', Q e a' w' ∧ Arrives P (lone (b.at a (.code body :: .inLoop body :: k)) cs w) b k cs e a' w' := by
    intro n
    induction n using Nat.strongRecOn with
    | _ n ih =>
      intro x a w hn hp ha hw
      obtain ⟨e, a₁, w₁, hq, harr⟩ := (hr x hp).run a w ha hw b (.inLoop body :: k) cs
      cases e with
      | normal =>
        obtain ⟨x', hp', hlt, ha', hw'⟩ := hq
        obtain ⟨e₂, a₂, w₂, hq₂, harr₂⟩ := ih (μ x') (hn ▸ hlt) x' a₁ w₁ rfl hp' ha' hw'
        exact ⟨e₂, a₂, w₂, hq₂, .of_steps (Steps.trans harr (.one step_inLoop)) harr₂⟩
      | exit id => exact ⟨_, a₁, w₁, hq, .pass (x := .inLoop body) rfl (fun _ _ => .inl (by simp)) harr⟩
      | goto l => exact ⟨_, a₁, w₁, hq, .pass (x := .inLoop body) rfl (fun _ _ => .inl (by simp)) harr⟩
      | ret => exact ⟨_, a₁, w₁, hq, .pass (x := .inLoop body) rfl (fun _ _ => .inl (by simp)) harr⟩
      | panic ch => exact ⟨_, a₁, w₁, hq, .pass (x := .inLoop body) rfl (fun _ _ => .inl (by simp)) harr⟩
      | outgrown => exact ⟨_, a₁, w₁, hq, .pass (x := .inLoop body) rfl (fun _ _ => .inl (by simp)) harr⟩
  obtain ⟨e, a', w', hq, harr⟩ := key _ x0 a w rfl h0 (ha.sub hE) (hS w hw)
  exact ⟨e, a', w', hq, .of_steps (.one step_loop) harr⟩
theorem At_rounds {X : Type} {I : X → Slots} {J : X → List Ent} {pre : X → Prop} {μ : X → Nat} {x : X} (x' : X) (hp : pre x') (hμ : μ x' < μ x) (hE : SubE E (I x')) (hS : ∀ w, Mem C w S → Mem C w (J x')) :
    At C (Exit.then (Rounds C I J pre μ x) Q .normal) E S := ⟨fun a w ha hw => ⟨x', hp, hμ, ha.sub hE, hS w hw⟩⟩
theorem At.mem {K : Act → World → Prop} {S' : List Ent} (hS : ∀ w, Mem C w S → Mem C w S') (h : At C K E S') : At C K E S := ⟨fun a w ha hw => h.run a w ha (hS w hw)⟩
theorem T_mem {c : Code} {S' : List Ent} (hS : ∀ w, Mem C w S → Mem C w S') (h : T P C c Q E S') : T P C c Q E S := ⟨fun a w ha hw => h.run a w ha (hS w hw)⟩
end
end Go.Proofs.Ytppicbdaijiifaa
