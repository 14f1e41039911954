/- Lists of lists of one's own: the headers lie in one list, the rows behind them. No condition. -/
import Derived.Test.YtnbgcgpkpakicaaW
namespace Go.Proofs.Ytnbgcgpkpakicaa
open Go.RowKit

/-- a header: where a row lies -/
structure Hd where
  a : Option Addr
  n : Nat
  c : Nat
def Hd.v (h : Hd) : Value := .slice h.a h.n h.c
def hdEnc (h : Hd) : List Value := [.slice h.a h.n h.c]
inductive All2 {α β : Type} (R : α → β → Prop) : List α → List β → Prop
  | nil : All2 R [] []
  | cons {a : α} {b : β} {l : List α} {m : List β} (h : R a b) (t : All2 R l m) : All2 R (a :: l) (b :: m)
/-- the rows, each of its own -/
def Inner {α : Type} (enc : α → List Value) (M e : Nat) (w : World) (hs : List Hd) (rows : List (List α)) : Prop :=
  All2 (fun h l => h.n = l.length ∧ Own enc M e w 0 h.v l) hs rows ∧ hs.Pairwise fun h g => ∀ k, h.v.ownBlock = some k → g.v.ownBlock ≠ some k
theorem Own.same {α : Type} {enc : α → List Value} {M e : Nat} {w w' : World} {v : Value} {l : List α} (h : ∀ g, v.ownBlock = some g → w'.heap[g]? = w.heap[g]?) (hp : Own enc M e w 0 v l) : Own enc M e w' 0 v l := by
  refine ⟨hp.1, ?_⟩
  rcases hp.2 with hn | ⟨g, cap, cur, hv, hbb, hg, rest⟩
  · exact .inl hn
  · refine .inr ⟨g, cap, cur, hv, hbb, (h g ?_).trans hg, rest⟩
    rw [hv]; rfl
theorem forall2_mono {α β : Type} {R R' : α → β → Prop} : ∀ {l : List α} {m : List β}, All2 R l m → (∀ a ∈ l, ∀ b, R a b → R' a b) → All2 R' l m
  | _, _, .nil, _ => .nil
  | _, _, .cons h t, f => .cons (f _ List.mem_cons_self _ h) (forall2_mono t fun a ha b => f a (List.mem_cons_of_mem _ ha) b)
theorem forall2_append {α β : Type} {R : α → β → Prop} {a : α} {b : β} (h : R a b) : ∀ {l : List α} {m : List β}, All2 R l m → All2 R (l ++ [a]) (m ++ [b])
  | _, _, .nil => .cons h .nil
  | _, _, .cons h' t => .cons h' (forall2_append h t)
theorem forall2_len {α β : Type} {R : α → β → Prop} : ∀ {l : List α} {m : List β}, All2 R l m → l.length = m.length
  | _, _, .nil => rfl
  | _, _, .cons _ t => by simp [forall2_len t]
theorem forall2_at {α β : Type} {R : α → β → Prop} : ∀ {l : List α} {m : List β}, All2 R l m → ∀ i (h1 : i < l.length) (h2 : i < m.length), R l[i] m[i]
  | _, _, .nil, _, h, _ => by simp at h
  | _, _, .cons h' _, 0, _, _ => h'
  | _, _, .cons _ t, i + 1, h1, h2 => forall2_at t i (by simpa using h1) (by simpa using h2)
def entInner {α : Type} (enc : α → List Value) (M e : Nat) (hs : List Hd) (rows : List (List α)) : Ent :=
  ⟨fun k => ∃ h ∈ hs, h.v.ownBlock = some k, hs.filterMap fun h => h.v.ownBlock, fun k => by simp [List.mem_filterMap], fun w => Inner enc M e w hs rows, fun w w' h hp =>
    ⟨forall2_mono hp.1 fun a ha b hab => ⟨hab.1, hab.2.same fun g hg => h g ⟨a, ha, hg⟩⟩, hp.2⟩⟩
section
variable {C : Ctx} {w w' : World} {S S1 S' : List Ent} {α : Type} {enc : α → List Value} {M e : Nat} {hs : List Hd} {rows : List (List α)} {l : List α} {A : Option Addr} {c : Nat}
theorem Mem.nilInner (enc : α → List Value) (M e : Nat) (h : Mem C w S) : Mem C w (entInner enc M e [] [] :: S) :=
  h.fresh (e := entInner enc M e [] []) (Below.refl _ _) (fun g hg => by obtain ⟨a, ha, _⟩ := hg; simp at ha) ⟨.nil, .nil⟩
/-- a row more -/
theorem Mem.absorb (hp : Pick S (entOwn enc M e A c l) S1) (hu : Upd S1 (entInner enc M e hs rows) (entInner enc M e (hs ++ [⟨A, l.length, c⟩]) (rows ++ [l])) S') (hw : Mem C w S) : Mem C w S' := by
  have h1 := hw.pick hp
  obtain ⟨X, Y, rfl, rfl⟩ := hu.form
  have hap := List.pairwise_cons.1 h1.apart
  have hap2 := hap.2
  rw [List.pairwise_append, List.pairwise_cons] at hap2
  obtain ⟨hX, ⟨hY1, hY⟩, hXY⟩ := hap2
  have ho := h1.holds _ List.mem_cons_self
  have hin := h1.holds (entInner enc M e hs rows) (by simp)
  have hfar : ∀ k, (∃ h ∈ hs, h.v.ownBlock = some k) → (Value.slice A l.length c).ownBlock ≠ some k := fun k hk hk' => hap.1 (entInner enc M e hs rows) (by simp) k hk' hk
  have hhas : ∀ k, (entInner enc M e (hs ++ [⟨A, l.length, c⟩]) (rows ++ [l])).has k → (entInner enc M e hs rows).has k ∨ (entOwn enc M e A c l).has k := by
    rintro k ⟨h, hm, hk⟩
    rcases List.mem_append.1 hm with hm | hm
    · exact .inl ⟨h, hm, hk⟩
    · obtain rfl : h = ⟨A, l.length, c⟩ := by simpa using hm
      exact .inr hk
  refine ⟨h1.keeps, fun f hf => ?_, ?_⟩
  · rcases List.mem_append.1 hf with hf | hf
    · exact h1.holds f (by simp [hf])
    · rcases List.mem_cons.1 hf with rfl | hf
      · refine ⟨⟨forall2_append ⟨rfl, ho.1⟩ hin.1.1, ?_⟩, fun k hk => ?_⟩
        · rw [List.pairwise_append]
          refine ⟨hin.1.2, List.pairwise_singleton _ _, fun h hh g hg k hk => ?_⟩
          obtain rfl : g = ⟨A, l.length, c⟩ := by simpa using hg
          exact hfar k ⟨h, hh, hk⟩
        · rcases hhas k hk with h | h
          · exact hin.2 k h
          · exact ho.2 k h
      · exact h1.holds f (by simp [hf])
  · rw [List.pairwise_append, List.pairwise_cons]
    refine ⟨hX, ⟨fun f hf k hk => ?_, hY⟩, fun f hf g hg k hk => ?_⟩
    · rcases hhas k hk with h | h
      · exact hY1 f hf k h
      · exact hap.1 f (by simp [hf]) k h
    · rcases List.mem_cons.1 hg with rfl | hg
      · intro hk'
        rcases hhas k hk' with h | h
        · exact hXY f hf _ List.mem_cons_self k hk h
        · exact hap.1 f (by simp [hf]) k h hk
      · exact hXY f hf g (by simp [hg]) k hk
theorem Mem.innerRd (hw : Mem C w S) (hm : entInner enc M e hs rows ∈ S) (hM : ∀ x, (enc x).length = M) {j : Nat} (h1 : j < hs.length) (h2 : j < rows.length) : hs[j].n = rows[j].length ∧ RdE enc M w hs[j].a rows[j] := by
  have hp : Inner enc M e w hs rows := (hw.holds _ hm).1
  obtain ⟨hn, ho⟩ := forall2_at hp.1 j h1 h2
  refine ⟨hn, ?_⟩
  obtain ⟨A', c', hv, hr⟩ := Own.rd ho hM
  unfold Hd.v at hv
  simp only [Value.slice.injEq] at hv
  rw [hv.1]; exact hr
theorem Mem.innerLen (hw : Mem C w S) (hm : entInner enc M e hs rows ∈ S) : hs.length = rows.length := by
  have hp : Inner enc M e w hs rows := (hw.holds _ hm).1
  exact forall2_len hp.1
theorem T_innerLen {P : Program} {Q : Exit → Act → World → Prop} {E : Slots} {code : Code} (hm : entInner enc M e hs rows ∈ S) (h : hs.length = rows.length → T P C code Q E S) : T P C code Q E S :=
  ⟨fun a w ha hw => (h (hw.innerLen hm)).run a w ha hw⟩
/-- a list of lists that the caller takes: its own, both the headers and the rows -/
def OwnRows (enc : α → List Value) (M e e2 : Nat) (w : World) (B : Nat) (A : Option Addr) (c : Nat) (hs : List Hd) (rows : List (List α)) : Prop :=
  Own hdEnc 1 e2 w 0 (.slice A hs.length c) hs ∧ Inner enc M e w hs rows ∧ (∀ k, ((Value.slice A hs.length c).ownBlock = some k ∨ ∃ h ∈ hs, h.v.ownBlock = some k) → B ≤ k ∧ k < w.heap.size) ∧ ∀ k, (Value.slice A hs.length c).ownBlock = some k → ¬ ∃ h ∈ hs, h.v.ownBlock = some k
theorem Mem.rowsOut {e2 : Nat} (hw : Mem C w S) (hF : C.F = []) (hs2 : [entOwn hdEnc 1 e2 A c hs, entInner enc M e hs rows].Sublist S) : OwnRows enc M e e2 w C.w0.heap.size A c hs rows := by
  have hw' := hw.sub hs2
  have h1 := hw'.holds _ List.mem_cons_self
  have h2 := hw'.holds (entInner enc M e hs rows) (by simp)
  have h3 := (List.pairwise_cons.1 hw'.apart).1 (entInner enc M e hs rows) (by simp)
  refine ⟨h1.1, h2.1, fun k hk => ?_, fun k hk hk' => h3 k hk hk'⟩
  rcases hk with hk | hk
  · have := h1.2 k hk
    rw [hF] at this
    exact ⟨this.2.resolve_left (by simp), this.1⟩
  · have := h2.2 k hk
    rw [hF] at this
    exact ⟨this.2.resolve_left (by simp), this.1⟩
theorem Mem.rowsIn {e2 : Nat} (hw : Mem C w S) (hb : Below w.heap.size w w') (h : OwnRows enc M e e2 w' w.heap.size A c hs rows) : Mem C w' (entOwn hdEnc 1 e2 A c hs :: entInner enc M e hs rows :: S) := by
  have h1 : Mem C w' (entInner enc M e hs rows :: S) := hw.fresh hb (fun g hg => h.2.2.1 g (.inr hg)) h.2.1
  refine ⟨h1.keeps, fun f hf => ?_, ?_⟩
  · rcases List.mem_cons.1 hf with rfl | hf
    · refine ⟨h.1, fun g hg => ?_⟩
      have := h.2.2.1 g (.inl hg)
      exact ⟨this.2, .inr (Nat.le_trans hw.keeps.size this.1)⟩
    · exact h1.holds f hf
  · refine List.pairwise_cons.2 ⟨fun f hf k hk => ?_, h1.apart⟩
    rcases List.mem_cons.1 hf with rfl | hf
    · exact h.2.2.2 k hk
    · intro hk'
      have q1 := (h.2.2.1 k (.inl hk)).1
      have q2 := ((hw.holds f hf).2 k hk').1
      omega
end
section
variable {P : Program} {C : Ctx} {E : Slots} {S : List Ent} {f d ty : Nat} {ps : String} {af : Array Edge} {g0 : Option (Nat × Bool)} {α : Type} {enc : α → List Value} {M e e2 : Nat} {rows : List (List α)}
def HdOf (hs : List Hd) (rows : List (List α)) : Prop := hs.length = rows.length ∧ ∀ j (h1 : j < hs.length) (h2 : j < rows.length), hs[j].n = rows[j].length
theorem OwnRows.hd {w : World} {B : Nat} {A : Option Addr} {c : Nat} {hs : List Hd} (h : OwnRows enc M e e2 w B A c hs rows) : HdOf hs rows :=
  ⟨forall2_len h.2.1.1, fun j h1 h2 => (forall2_at h.2.1.1 j h1 h2).1⟩
/-- a call that hands back a list of lists that it made -/
theorem ES_callRows [hf : IsFn P f] {xs : List Operand} {vs : List Value} {ats : Array TypeId} {r : Option Addr → Nat → List Hd → Value} (hx : evs E xs = some vs)
    (hc : ∀ w, Mem C w S → Calls P f vs.toArray w fun x w' => ∃ A c hs, x = .returned (r A c hs) ∧ OwnRows enc M e e2 w' w.heap.size A c hs rows ∧ Below w.heap.size w w') (hd : Nat.ble (d + 1) C.n = true) :
    ES P C E S ⟨some d, .call ⟨.value (.func f), xs.toArray, ats⟩, ty, ps, af, g0⟩ (fun E' S' => ∃ A c hs, HdOf hs rows ∧ E' = (d, r A c hs) :: E ∧ S' = entOwn hdEnc 1 e2 A c hs :: entInner enc M e hs rows :: S) :=
  (ES_call (fun u T => ∃ A c hs, HdOf hs rows ∧ u = r A c hs ∧ T = entOwn hdEnc 1 e2 A c hs :: entInner enc M e hs rows :: S) hx (fun w hw => (hc w hw).mono fun e w' ⟨A, c, hs, he, ho, hb⟩ => ⟨_, _, he, hw.rowsIn hb ho, A, c, hs, ho.hd, rfl, rfl⟩) hd).weak
    (by rintro _ _ ⟨_, ⟨A, c, hs, hh, rfl, rfl⟩, rfl⟩; exact ⟨A, c, hs, hh, rfl, rfl⟩)
/-- the whole of an array that lies in memory -/
theorem QS_sliceArr {t n e m g o : Nat} {x : Operand} [hs : ArrayOf P t n e m] (hx : evo E x = some (.pointer (some ⟨g, o, none⟩))) : QS P C E S (.slice t x none none none) ty (.slice (some ⟨g, o, none⟩) n n) :=
  QS.of (fun a w ha _ => by
    have he : P.elem t = e := by simp [Program.elem, hs.und]
    have hn : P.arrayLen t = n := by simp [Program.arrayLen, hs.und]
    have hr := run_sliceAt_array_all (P := P) w t ⟨g, o, none⟩ (by rw [he, hn]; exact hs.und)
    rw [he, hn, hs.size w] at hr
    have hv : slicedAt ⟨g, o, none⟩ 0 n n m = .slice (some ⟨g, o, none⟩) n n := by
      unfold slicedAt
      split <;> simp [add_mk]
    simp only [Result.andThen_ok, hv] at hr
    simp [execOp, ha.evo hx, hr])
end
end Go.Proofs.Ytnbgcgpkpakicaa
