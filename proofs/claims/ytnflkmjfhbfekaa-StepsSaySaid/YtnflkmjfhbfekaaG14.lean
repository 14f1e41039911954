/- Lemmas for the walks (R, LawR, Hist4, Hist4c, Hist5, Rel). No condition. -/
import Derived.Test.YtnflkmjfhbfekaaG08
import Derived.Test.YtnflkmjfhbfekaaG13
import Derived.Test.YtnflkmjfhbfekaaG06
import Derived.RegionTactic
import Derived.StillTailTactics
import Derived.Test.YtnflkmjfhbfekaaG07
import Derived.Test.YtnflkmjfhbfekaaG05
import Derived.Test.YtnflkmjfhbfekaaG03
import Derived.Test.YtnflkmjfhbfekaaRows
import Derived.Test.YtnflkmjfhbfekaaG01
import Derived.ChangeKeysEq
set_option linter.unusedSimpArgs false
set_option linter.unusedVariables false
set_option linter.unusedSectionVars false
set_option linter.unnecessarySimpa false
namespace Go.Proofs.Ytnflkmjfhbfekaa
open Go.RowKit

/-- a header: where a row lies -/
structure Hd where
  a : Option Addr
  n : Nat
  c : Nat
def Hd.v (h : Hd) : Value := .slice h.a h.n h.c
def hdEnc (h : Hd) : List Value := [.slice h.a h.n h.c]
inductive All2 {α β : Type} (R : α → β → Prop) : List α → List β → Prop
  | nil : All2 R [] []
  | cons {a : α} {b : β} {l : List α} {m : List β} (h : R a b) (t : All2 R l m) : All2 R (a :: l) (b :: m)
/-- the rows, each of its own -/
def Inner {α : Type} (enc : α → List Value) (M e : Nat) (w : World) (hs : List Hd) (rows : List (List α)) : Prop :=
  All2 (fun h l => h.n = l.length ∧ Own enc M e w 0 h.v l) hs rows ∧ hs.Pairwise fun h g => ∀ k, h.v.ownBlock = some k → g.v.ownBlock ≠ some k
theorem Own.same {α : Type} {enc : α → List Value} {M e : Nat} {w w' : World} {v : Value} {l : List α} (h : ∀ g, v.ownBlock = some g → w'.heap[g]? = w.heap[g]?) (hp : Own enc M e w 0 v l) : Own enc M e w' 0 v l := by
  refine ⟨hp.1, ?_⟩
  rcases hp.2 with hn | ⟨g, cap, cur, hv, hbb, hg, rest⟩
  · exact .inl hn
  · refine .inr ⟨g, cap, cur, hv, hbb, (h g ?_).trans hg, rest⟩
    rw [hv]; rfl
theorem forall2_mono {α β : Type} {R R' : α → β → Prop} : ∀ {l : List α} {m : List β}, All2 R l m → (∀ a ∈ l, ∀ b, R a b → R' a b) → All2 R' l m
  | _, _, .nil, _ => .nil
  | _, _, .cons h t, f => .cons (f _ List.mem_cons_self _ h) (forall2_mono t fun a ha b => f a (List.mem_cons_of_mem _ ha) b)
theorem forall2_append {α β : Type} {R : α → β → Prop} {a : α} {b : β} (h : R a b) : ∀ {l : List α} {m : List β}, All2 R l m → All2 R (l ++ [a]) (m ++ [b])
  | _, _, .nil => .cons h .nil
  | _, _, .cons h' t => .cons h' (forall2_append h t)
theorem forall2_len {α β : Type} {R : α → β → Prop} : ∀ {l : List α} {m : List β}, All2 R l m → l.length = m.length
  | _, _, .nil => rfl
  | _, _, .cons _ t => by simp [forall2_len t]
theorem forall2_at {α β : Type} {R : α → β → Prop} : ∀ {l : List α} {m : List β}, All2 R l m → ∀ i (h1 : i < l.length) (h2 : i < m.length), R l[i] m[i]
  | _, _, .nil, _, h, _ => by simp at h
  | _, _, .cons h' _, 0, _, _ => h'
  | _, _, .cons _ t, i + 1, h1, h2 => forall2_at t i (by simpa using h1) (by simpa using h2)
def entInner {α : Type} (enc : α → List Value) (M e : Nat) (hs : List Hd) (rows : List (List α)) : Ent :=
  ⟨fun k => ∃ h ∈ hs, h.v.ownBlock = some k, hs.filterMap fun h => h.v.ownBlock, fun k => by simp [List.mem_filterMap], fun w => Inner enc M e w hs rows, fun w w' h hp =>
    ⟨forall2_mono hp.1 fun a ha b hab => ⟨hab.1, hab.2.same fun g hg => h g ⟨a, ha, hg⟩⟩, hp.2⟩⟩
section
variable {C : Ctx} {w w' : World} {S S1 S' : List Ent} {α : Type} {enc : α → List Value} {M e : Nat} {hs : List Hd} {rows : List (List α)} {l : List α} {A : Option Addr} {c : Nat}
theorem Mem.nilInner (enc : α → List Value) (M e : Nat) (h : Mem C w S) : Mem C w (entInner enc M e [] [] :: S) :=
  h.fresh (e := entInner enc M e [] []) (Below.refl _ _) (fun g hg => by obtain ⟨a, ha, _⟩ := hg; simp at ha) ⟨.nil, .nil⟩
/-- a row more -/
theorem Mem.absorb (hp : Pick S (entOwn enc M e A c l) S1) (hu : Upd S1 (entInner enc M e hs rows) (entInner enc M e (hs ++ [⟨A, l.length, c⟩]) (rows ++ [l])) S') (hw : Mem C w S) : Mem C w S' := by
  have h1 := hw.pick hp
  obtain ⟨X, Y, rfl, rfl⟩ := hu.form
  have hap := List.pairwise_cons.1 h1.apart
  have hap2 := hap.2
  rw [List.pairwise_append, List.pairwise_cons] at hap2
  obtain ⟨hX, ⟨hY1, hY⟩, hXY⟩ := hap2
  have ho := h1.holds _ List.mem_cons_self
  have hin := h1.holds (entInner enc M e hs rows) (by simp)
  have hfar : ∀ k, (∃ h ∈ hs, h.v.ownBlock = some k) → (Value.slice A l.length c).ownBlock ≠ some k := fun k hk hk' => hap.1 (entInner enc M e hs rows) (by simp) k hk' hk
  have hhas : ∀ k, (entInner enc M e (hs ++ [⟨A, l.length, c⟩]) (rows ++ [l])).has k → (entInner enc M e hs rows).has k ∨ (entOwn enc M e A c l).has k := by
    rintro k ⟨h, hm, hk⟩
    rcases List.mem_append.1 hm with hm | hm
    · exact .inl ⟨h, hm, hk⟩
    · obtain rfl : h = ⟨A, l.length, c⟩ := by simpa using hm
      exact .inr hk
  refine ⟨h1.keeps, fun f hf => ?_, ?_⟩
  · rcases List.mem_append.1 hf with hf | hf
    · exact h1.holds f (by simp [hf])
    · rcases List.mem_cons.1 hf with rfl | hf
      · refine ⟨⟨forall2_append ⟨rfl, ho.1⟩ hin.1.1, ?_⟩, fun k hk => ?_⟩
        · rw [List.pairwise_append]
          refine ⟨hin.1.2, List.pairwise_singleton _ _, fun h hh g hg k hk => ?_⟩
          obtain rfl : g = ⟨A, l.length, c⟩ := by simpa using hg
          exact hfar k ⟨h, hh, hk⟩
        · rcases hhas k hk with h | h
          · exact hin.2 k h
          · exact ho.2 k h
      · exact h1.holds f (by simp [hf])
  · rw [List.pairwise_append, List.pairwise_cons]
    refine ⟨hX, ⟨fun f hf k hk => ?_, hY⟩, fun f hf g hg k hk => ?_⟩
    · rcases hhas k hk with h | h
      · exact hY1 f hf k h
      · exact hap.1 f (by simp [hf]) k h
    · rcases List.mem_cons.1 hg with rfl | hg
      · intro hk'
        rcases hhas k hk' with h | h
        · exact hXY f hf _ List.mem_cons_self k hk h
        · exact hap.1 f (by simp [hf]) k h hk
      · exact hXY f hf g (by simp [hg]) k hk
theorem Mem.innerRd (hw : Mem C w S) (hm : entInner enc M e hs rows ∈ S) (hM : ∀ x, (enc x).length = M) {j : Nat} (h1 : j < hs.length) (h2 : j < rows.length) : hs[j].n = rows[j].length ∧ RdE enc M w hs[j].a rows[j] := by
  have hp : Inner enc M e w hs rows := (hw.holds _ hm).1
  obtain ⟨hn, ho⟩ := forall2_at hp.1 j h1 h2
  refine ⟨hn, ?_⟩
  obtain ⟨A', c', hv, hr⟩ := Own.rd ho hM
  unfold Hd.v at hv
  simp only [Value.slice.injEq] at hv
  rw [hv.1]; exact hr
theorem Mem.innerLen (hw : Mem C w S) (hm : entInner enc M e hs rows ∈ S) : hs.length = rows.length := by
  have hp : Inner enc M e w hs rows := (hw.holds _ hm).1
  exact forall2_len hp.1
theorem T_innerLen {P : Program} {Q : Exit → Act → World → Prop} {E : Slots} {code : Code} (hm : entInner enc M e hs rows ∈ S) (h : hs.length = rows.length → T P C code Q E S) : T P C code Q E S :=
  ⟨fun a w ha hw => (h (hw.innerLen hm)).run a w ha hw⟩
/-- a list of lists that the caller takes: its own, both the headers and the rows -/
def OwnRows (enc : α → List Value) (M e e2 : Nat) (w : World) (B : Nat) (A : Option Addr) (c : Nat) (hs : List Hd) (rows : List (List α)) : Prop :=
  Own hdEnc 1 e2 w 0 (.slice A hs.length c) hs ∧ Inner enc M e w hs rows ∧ (∀ k, ((Value.slice A hs.length c).ownBlock = some k ∨ ∃ h ∈ hs, h.v.ownBlock = some k) → B ≤ k ∧ k < w.heap.size) ∧ ∀ k, (Value.slice A hs.length c).ownBlock = some k → ¬ ∃ h ∈ hs, h.v.ownBlock = some k
theorem Mem.rowsOut {e2 : Nat} (hw : Mem C w S) (hF : C.F = []) (hs2 : [entOwn hdEnc 1 e2 A c hs, entInner enc M e hs rows].Sublist S) : OwnRows enc M e e2 w C.w0.heap.size A c hs rows := by
  have hw' := hw.sub hs2
  have h1 := hw'.holds _ List.mem_cons_self
  have h2 := hw'.holds (entInner enc M e hs rows) (by simp)
  have h3 := (List.pairwise_cons.1 hw'.apart).1 (entInner enc M e hs rows) (by simp)
  refine ⟨h1.1, h2.1, fun k hk => ?_, fun k hk hk' => h3 k hk hk'⟩
  rcases hk with hk | hk
  · have := h1.2 k hk
    rw [hF] at this
    exact ⟨this.2.resolve_left (by simp), this.1⟩
  · have := h2.2 k hk
    rw [hF] at this
    exact ⟨this.2.resolve_left (by simp), this.1⟩
theorem Mem.rowsIn {e2 : Nat} (hw : Mem C w S) (hb : Below w.heap.size w w') (h : OwnRows enc M e e2 w' w.heap.size A c hs rows) : Mem C w' (entOwn hdEnc 1 e2 A c hs :: entInner enc M e hs rows :: S) := by
  have h1 : Mem C w' (entInner enc M e hs rows :: S) := hw.fresh hb (fun g hg => h.2.2.1 g (.inr hg)) h.2.1
  refine ⟨h1.keeps, fun f hf => ?_, ?_⟩
  · rcases List.mem_cons.1 hf with rfl | hf
    · refine ⟨h.1, fun g hg => ?_⟩
      have := h.2.2.1 g (.inl hg)
      exact ⟨this.2, .inr (Nat.le_trans hw.keeps.size this.1)⟩
    · exact h1.holds f hf
  · refine List.pairwise_cons.2 ⟨fun f hf k hk => ?_, h1.apart⟩
    rcases List.mem_cons.1 hf with rfl | hf
    · exact h.2.2.2 k hk
    · intro hk'
      have q1 := (h.2.2.1 k (.inl hk)).1
      have q2 := ((hw.holds f hf).2 k hk').1
      omega
end
section
variable {P : Program} {C : Ctx} {E : Slots} {S : List Ent} {f d ty : Nat} {ps : String} {af : Array Edge} {g0 : Option (Nat × Bool)} {α : Type} {enc : α → List Value} {M e e2 : Nat} {rows : List (List α)}
def HdOf (hs : List Hd) (rows : List (List α)) : Prop := hs.length = rows.length ∧ ∀ j (h1 : j < hs.length) (h2 : j < rows.length), hs[j].n = rows[j].length
theorem OwnRows.hd {w : World} {B : Nat} {A : Option Addr} {c : Nat} {hs : List Hd} (h : OwnRows enc M e e2 w B A c hs rows) : HdOf hs rows :=
  ⟨forall2_len h.2.1.1, fun j h1 h2 => (forall2_at h.2.1.1 j h1 h2).1⟩
/-- a call that hands back a list of lists that it made -/
theorem ES_callRows [hf : IsFn P f] {xs : List Operand} {vs : List Value} {ats : Array TypeId} {r : Option Addr → Nat → List Hd → Value} (hx : evs E xs = some vs)
    (hc : ∀ w, Mem C w S → Calls P f vs.toArray w fun x w' => ∃ A c hs, x = .returned (r A c hs) ∧ OwnRows enc M e e2 w' w.heap.size A c hs rows ∧ Below w.heap.size w w') (hd : Nat.ble (d + 1) C.n = true) :
    ES P C E S ⟨some d, .call ⟨.value (.func f), xs.toArray, ats⟩, ty, ps, af, g0⟩ (fun E' S' => ∃ A c hs, HdOf hs rows ∧ E' = (d, r A c hs) :: E ∧ S' = entOwn hdEnc 1 e2 A c hs :: entInner enc M e hs rows :: S) :=
  (ES_call (fun u T => ∃ A c hs, HdOf hs rows ∧ u = r A c hs ∧ T = entOwn hdEnc 1 e2 A c hs :: entInner enc M e hs rows :: S) hx (fun w hw => (hc w hw).mono fun e w' ⟨A, c, hs, he, ho, hb⟩ => ⟨_, _, he, hw.rowsIn hb ho, A, c, hs, ho.hd, rfl, rfl⟩) hd).weak
    (by rintro _ _ ⟨_, ⟨A, c, hs, hh, rfl, rfl⟩, rfl⟩; exact ⟨A, c, hs, hh, rfl, rfl⟩)
/-- the whole of an array that lies in memory -/
theorem QS_sliceArr {t n e m g o : Nat} {x : Operand} [hs : ArrayOf P t n e m] (hx : evo E x = some (.pointer (some ⟨g, o, none⟩))) : QS P C E S (.slice t x none none none) ty (.slice (some ⟨g, o, none⟩) n n) :=
  QS.of (fun a w ha _ => by
    have he : P.elem t = e := by simp [Program.elem, hs.und]
    have hn : P.arrayLen t = n := by simp [Program.arrayLen, hs.und]
    have hr := run_sliceAt_array_all (P := P) w t ⟨g, o, none⟩ (by rw [he, hn]; exact hs.und)
    rw [he, hn, hs.size w] at hr
    have hv : slicedAt ⟨g, o, none⟩ 0 n n m = .slice (some ⟨g, o, none⟩) n n := by
      unfold slicedAt
      split <;> simp [add_mk]
    simp only [Result.andThen_ok, hv] at hr
    simp [execOp, ha.evo hx, hr])
end
end Go.Proofs.Ytnflkmjfhbfekaa

namespace Go.Proofs.Ytnflkmjfhbfekaa
open Go.ChangeShapes Go.WideShapes Go.ChangeAt Go.RowKit Go.Deep

theorem open_row_rows {H : Type} {enc : TypeId × Value → H} {P : Program} {w : World} {base : Nat} {spare : Nat → Bool} {held : Bool} {t e e2 ti : TypeId} {fs : Array Field} {fuel : Nat} {cs : List Value} {x : DataW H × List MemPlace}
    (ht : P.underlying t = some (.slice e)) (hce : P.cellsOf e = 1) (het : P.underlying e = some (.slice e2)) (he : P.underlying e2 = some (.struct fs)) (hone : oneCellFields P fs = true) (hC : P.cellsOf e2 = fs.size) (hti : P.underlying ti = some (.int .i64)) (hfs : (fs.toList.all fun f => f.type == ti) = true)
    (h : DataW.trod enc P w base spare held fuel t cs = some x) :
    ∃ (A : Option Addr) (len cap : Nat) (hd : Nat → Hd) (Z : Nat → Nat → Nat → Int), cs = [.slice A len cap] ∧ len ≤ maxLen ∧ len ≤ cap ∧
      ∀ i, i < len → (∃ b o, A = some ⟨b, o, none⟩ ∧ b < w.heap.size ∧ w.cell? ⟨b, o + i, none⟩ = some (hd i).v) ∧ (hd i).n ≤ maxLen ∧ (hd i).n ≤ (hd i).c ∧
        ∀ k, k < (hd i).n → ∀ j, j < fs.size → (Lit.int .i64 (Z i k j)).wf = true ∧ ∃ b o, (hd i).a = some ⟨b, o, none⟩ ∧ b < w.heap.size ∧ w.cell? ⟨b, o + k * fs.size + j, none⟩ = some (.int .i64 (Z i k j)) := by
  rcases open_slice ht h with ⟨rfl, rfl⟩ | ⟨a, len, cap, m, n, D, Pl, rfl, hb, hl, hm, hmm, hx, hi⟩
  · exact ⟨none, 0, 0, fun _ => ⟨none, 0, 0⟩, fun _ _ _ => 0, rfl, by omega, by omega, fun i hi => by omega⟩
  have hlm : len ≤ m := by rw [hmm]; split <;> omega
  have key : ∀ i, i < len → ∃ y : Hd × (Nat → Nat → Int), w.cell? (a.add i) = some y.1.v ∧ y.1.n ≤ maxLen ∧ y.1.n ≤ y.1.c ∧
      ∀ k, k < y.1.n → ∀ j, j < fs.size → (Lit.int .i64 (y.2 k j)).wf = true ∧ ∃ b o, y.1.a = some ⟨b, o, none⟩ ∧ b < w.heap.size ∧ w.cell? ⟨b, o + k * fs.size + j, none⟩ = some (.int .i64 (y.2 k j)) := by
    intro i hil
    obtain ⟨cs', hc, htr⟩ := hi i (by omega)
    rw [hce, Nat.mul_one] at hc
    obtain ⟨A', n', c', Z, rfl, h1, h2, h3⟩ := open_int_rows het he hone hC hti hfs htr
    obtain ⟨_, _, hat⟩ := World.cells?_some hc
    have h0 := hat 0 (by omega)
    refine ⟨⟨⟨A', n', c'⟩, Z⟩, ?_, h1, h2, h3⟩
    rw [Go.Deep.add_add] at h0
    simpa [Hd.v] using h0
  have hfun : ∃ f : Nat → Hd × (Nat → Nat → Int), ∀ i, i < len → w.cell? (a.add i) = some (f i).1.v ∧ (f i).1.n ≤ maxLen ∧ (f i).1.n ≤ (f i).1.c ∧
      ∀ k, k < (f i).1.n → ∀ j, j < fs.size → (Lit.int .i64 ((f i).2 k j)).wf = true ∧ ∃ b o, (f i).1.a = some ⟨b, o, none⟩ ∧ b < w.heap.size ∧ w.cell? ⟨b, o + k * fs.size + j, none⟩ = some (.int .i64 ((f i).2 k j)) := by
    classical
    refine ⟨fun i => if hh : i < len then Classical.choose (key i hh) else ⟨⟨none, 0, 0⟩, fun _ _ => 0⟩, fun i hi' => ?_⟩
    simp only [dif_pos hi']
    exact Classical.choose_spec (key i hi')
  obtain ⟨f, hf⟩ := hfun
  refine ⟨some a, len, cap, fun i => (f i).1, fun i => (f i).2, rfl, by omega, hl, fun i hi' => ⟨⟨a.block, a.off, ?_, ?_, ?_⟩, (hf i hi').2⟩⟩
  · have h0 := (hf 0 (by omega)).1
    obtain ⟨ab, ao, spo⟩ := a
    cases spo with
    | none => rfl
    | some s => simp [Addr.add, World.cell?] at h0; split at h0 <;> simp_all
  · have := block_lt_of_cell (hf i hi').1
    unfold Addr.add at this
    split at this <;> exact this
  · have h0 := (hf 0 (by omega)).1
    rw [← (hf i hi').1]
    congr 1
    obtain ⟨ab, ao, spo⟩ := a
    cases spo with
    | none => simp [Addr.add]
    | some s => simp [Addr.add, World.cell?] at h0; split at h0 <;> simp_all
/-- a list of lists, to be read: the headers, and each row -/
def RdRows {α : Type} (enc : α → List Value) (M : Nat) (w : World) (A : Option Addr) (hs : List Hd) (rows : List (List α)) : Prop :=
  RdE hdEnc 1 w A hs ∧ hs.length = rows.length ∧ ∀ j (h1 : j < hs.length) (h2 : j < rows.length), hs[j].n = rows[j].length ∧ rows[j].length ≤ hs[j].c ∧ rows[j].length ≤ 9223372036854775807 ∧ RdE enc M w hs[j].a rows[j]
theorem rdRows_of {α : Type} {w : World} {A : Option Addr} {n m : Nat} {hd : Nat → Hd} {Z : Nat → Nat → Nat → Int} (mk : (Nat → Int) → α) (enc : α → List Value) (hm : 0 < m)
    (henc : ∀ z : Nat → Int, ∀ j v, (enc (mk z))[j]? = some v → j < m ∧ v = .int .i64 (z j))
    (hZ : ∀ i, i < n → (∃ b o, A = some ⟨b, o, none⟩ ∧ b < w.heap.size ∧ w.cell? ⟨b, o + i, none⟩ = some (hd i).v) ∧ (hd i).n ≤ maxLen ∧ (hd i).n ≤ (hd i).c ∧
        ∀ k, k < (hd i).n → ∀ j, j < m → (Lit.int .i64 (Z i k j)).wf = true ∧ ∃ b o, (hd i).a = some ⟨b, o, none⟩ ∧ b < w.heap.size ∧ w.cell? ⟨b, o + k * m + j, none⟩ = some (.int .i64 (Z i k j))) :
    RdRows enc m w A ((List.range n).map hd) ((List.range n).map fun i => (List.range (hd i).n).map fun k => mk (Z i k)) := by
  refine ⟨fun i x hx => ?_, by simp, fun j h1 h2 => ?_⟩
  · have hi : i < n := by
      have := (List.getElem?_eq_some_iff.1 hx).1
      simpa using this
    have hx' : hd i = x := by simpa [hi] using hx
    subst hx'
    obtain ⟨⟨b, o, e1, e2, e3⟩, _⟩ := hZ i hi
    refine ⟨b, o, e1, e2, fun j v hv => ?_⟩
    match j, hv with
    | 0, hv =>
      have : (hd i).v = v := by simpa [hdEnc, Hd.v] using hv
      rw [← this, Nat.mul_one, Nat.add_zero]
      exact e3
    | j + 1, hv => simp [hdEnc] at hv
  · have hj : j < n := by simpa using h1
    obtain ⟨_, h3, h4, h5⟩ := hZ j hj
    unfold maxLen at h3
    simp only [List.getElem_map, List.getElem_range, List.length_map, List.length_range]
    exact ⟨trivial, h4, by omega, rdE_of_rows mk enc hm henc h5⟩
end Go.Proofs.Ytnflkmjfhbfekaa

namespace Go.Proofs.Ytnflkmjfhbfekaa
open Go.RowKit

theorem rdCells_set (t v : Value) (op : Nat → Int) (k : Nat) (hk : k < 8) (z : Int) : (rdCells t v op).setIfInBounds (2 + k) (.int .i64 z) = rdCells t v (upz op k z) := by
  have := ints_set op 8 k z
  unfold ints at this
  apply Array.ext_getElem?
  intro j
  rw [Array.getElem?_setIfInBounds]
  match j with
  | 0 => simp [rdCells]
  | 1 => simp [rdCells]; omega
  | j + 2 =>
    have h := congrArg (fun a : Array Value => a[j]?) this
    simp only [Array.getElem?_setIfInBounds, List.getElem?_toArray, List.size_toArray, List.length_map, List.length_range] at h
    simp only [rdCells, List.getElem?_toArray, List.getElem?_cons_succ, List.size_toArray, List.length_cons, List.length_map, List.length_range]
    rw [← h]
    by_cases e : k = j
    · subst e; simp [hk, Nat.add_comm 2 k]
    · have : ¬ 2 + k = j + 2 := by omega
      simp [e, this]
theorem rdCells_setv (t v u : Value) (op : Nat → Int) : (rdCells t v op).setIfInBounds 1 u = rdCells t u op := by
  apply Array.ext_getElem?
  intro j
  rw [Array.getElem?_setIfInBounds]
  match j with
  | 0 => simp [rdCells]
  | 1 => simp [rdCells]
  | j + 2 => simp [rdCells]

set_option maxHeartbeats 4000000 in
theorem event_end_ok (r : Nat) (T : Option Addr) (c : Nat) (ts : List Int) (v : Value) (op : Nat → Int) (i : Int) (k t : Nat) (value : Int) (w : World) (hl : ts.length ≤ 9223372036854775807) (hk : k < 8) (ht : t < ts.length)
    (hb : Blk w r 178 (rdCells (.slice T ts.length c) v op)) (B : Nat) (hB : B ≤ r) (cs : List Cl) (hcs : cs.length ≤ 1000) (ho : OwnCl w B v cs) (m : Nat) (hm : m < cs.length) (hop : op k = (m : Int) + 1)
    (hth : cs[m].thing = t) (hr : resB cs[m].kind value = true) :
    Calls Try.prog 82 #[.pointer (some ⟨r, 0, none⟩), .int .i64 i, .agg (Ev.enc ⟨k, t, 0, value⟩).toArray] w fun e w' => e = .returned (.int .i64 0) ∧
      Blk w' r 178 (rdCells (.slice T ts.length c) v (upz op k 0)) ∧ OwnCl w' B v (cs.set m { cs[m] with res := value, to := i }) ∧ Below B w w' := by
  simp only [evCells]
  have c0 := (hb.cell 0).trans (rdCells_0 _ _ _)
  have c2 := (hb.cell (2 + k)).trans (rdCells_at _ _ _ k hk)
  have l0 := hb.lt
  have hk0 : (0 : Int) ≤ k := by omega
  have hk8 : (k : Int) < 8 := by omega
  have ht0 : (0 : Int) ≤ t := by omega
  have ht8 : (t : Int) < ts.length := by omega
  have d1 : decide ((k : Int) < 0) = false := by simp
  have d2 : decide ((8 : Int) ≤ k) = false := by simp; omega
  have d3 : decide ((t : Int) < 0) = false := by simp
  have d4 : decide ((ts.length : Int) ≤ t) = false := by simp; omega
  have c1 := (hb.cell 1).trans (rdCells_1 _ _ _)
  have f2 := hb.frozen (2 + k)
  have hne := ho.ne hb (by decide)
  obtain ⟨g, cc, hv, hgB, hg, hc, hfz⟩ := ho.at_ Cl.len m hm
  have e1 := hc 1 _ rfl
  have e2 := hc 2 _ rfl
  have e4 := hc 4 _ rfl
  have e6 := hc 6 _ rfl
  have z4 := hfz (m * 7 + 4)
  have z6 := hfz (m * 7 + 6)
  have hgr : g ≠ r := by subst hv; simpa [Value.ownBlock] using hne
  rw [hv] at c1
  rw [hop] at c2
  rw [hth] at e1
  have hm1 : (m : Int) < (cs.length : Int) := by omega
  have hm2 : (cs.length : Int) ≤ 1000 := by omega
  have hm3 : (m : Int) + 1 ≠ 0 := by omega
  have hm4 : ((m : Int) + 1 == 0) = false := by simpa using hm3
  have d5 : (((t : Int) : Int) != t) = false := by simp
  have Hf := Lib.hid (And.intro hb (And.intro ho hne))
  have Hset : ∀ W, Own Cl.enc 7 132 W B v cs → Own Cl.enc 7 132 ((W.setCell ⟨g, m * 7 + 4, none⟩ (.int .i64 value)).setCell ⟨g, m * 7 + 6, none⟩ (.int .i64 i)) B v (cs.set m { cs[m] with res := value, to := i }) := by
    intro W h
    have h1 := h.set_ Cl.len m hm 4 (by omega) (.int .i64 value) { cs[m] with res := value } rfl hv
    have h2 := h1.set_ Cl.len m (by simpa using hm) 6 (by omega) (.int .i64 i) { cs[m] with res := value, to := i } (by simp [Cl.enc]) (by simpa using hv)
    simpa using h2
  have HH := Lib.hid Hset
  clear hb ho hc hfz hop hne hv Hset
  go_enter Try.func82, Try.ntmps82
  go_wp2_with (fail)
  go_quiet (fail)
  go_wp2_with (fail)
  go_quiet (fail)
  go_wp2_with (fail)
  go_quiet (first | (go_at_call 105; (first | exact Calls.quiet_of_same (result_is (by assumption) _) | exact Calls.quiet_same (result_is (by assumption) _))))
  go_wp2_with (fail)
  have hgr' : r ≠ g := fun e => hgr e.symm
  have hgw : g ≠ w.heap.size := by omega
  have hgw' : w.heap.size ≠ g := by omega
  have hrw : r ≠ w.heap.size := by omega
  · go_region
    go_wp2_with (fail)
    go_ret
    refine ⟨rfl, ?_, ?_, ?_⟩
    · rw [← rdCells_set _ _ _ _ hk]
      exact (((((Hf.out.1.alloc _).drewN _).far hgr' _).far hgr' _).set_ _ _)
    · exact Own.far (HH.out _ (Own.drewN (Own.alloc Hf.out.2.1 _) _)) (p := ⟨r, 2 + k, none⟩) Hf.out.2.2 _
    · (repeat (first | assumption | exact Below.refl _ _ | refine Below.drew ?_ | refine below_drewN' ?_ _ | refine Below.alloc ?_ (by first | omega | (simp; done) | (simp; omega)) _ | refine Below.setCell ?_ (by first | omega | (simp; done) | (simp; omega)) _))
theorem name_drewN {P : Program} {c : Code} {Q : Exit → Act → World → Prop} {a : Act} {W : World} {n : Nat} (h : ∀ w2, (∃ m, w2 = W.drewN m) → Code.wp P c Q a w2) : Code.wp P c Q a (W.drewN n) := h _ ⟨n, rfl⟩
theorem info_call : (Try.prog.info? 132).map (fun i => (i.zero, i.size, i.bytes)) = some (some (.agg #[.int .i64 0, .int .i64 0, .int .i64 0, .int .i64 0, .int .i64 0, .int .i64 0, .int .i64 0]), 7, 56) := by kernel_rfl

end Go.Proofs.Ytnflkmjfhbfekaa

namespace Go.Proofs.Ytnflkmjfhbfekaa
open Go.RowKit

theorem nthV_rd (t v : Value) (op : Nat → Int) (i : Nat) (h : i < 8) : nthV (rdCells t v op).toList (2 + i) = some (.int .i64 (op i)) := by rw [← nthV_eq]; simpa using rdCells_at t v op i h
theorem rdCells_size (t v : Value) (op : Nat → Int) : (rdCells t v op).size = 10 := by simp [rdCells]
theorem Mem.ownUp {C : Ctx} {S : List Ent} {α : Type} {enc : α → List Value} {M et c : Nat} {ls : List α} {A : Option Addr} {w : World} {B : Nat} (hw : Mem C w S) (hF : ∀ g ∈ C.F, B ≤ g) (hB : B ≤ C.w0.heap.size) (hm : entOwn enc M et A c ls ∈ S) : Own enc M et w B (.slice A ls.length c) ls := by
  obtain ⟨ho, hb⟩ := hw.holds _ hm
  have ho' : Own enc M et w 0 (.slice A ls.length c) ls := ho
  refine ⟨ho'.1, ?_⟩
  rcases ho'.2 with hn | ⟨g, cap, cur, hv, _, rest⟩
  · exact .inl hn
  · refine .inr ⟨g, cap, cur, hv, ?_, rest⟩
    rcases (hb g (by show (Value.slice A ls.length c).ownBlock = some g; rw [hv]; rfl)).2 with h | h
    · exact hF g h
    · omega
theorem Keeps.upto {F : List Nat} {B : Nat} {w w' : World} (h : Keeps F w w') (hF : ∀ g ∈ F, B ≤ g) (hB : B ≤ w.heap.size) : Below B w w' :=
  ⟨h.os, h.tape, h.output, h.size, fun k hk => h.block k (by omega) (fun hm => by have := hF k hm; omega)⟩
set_option maxRecDepth 100000 in
set_option maxHeartbeats 8000000 in
theorem event_call_ok (r : Nat) (T : Option Addr) (c : Nat) (ts : List Int) (v : Value) (op : Nat → Int) (i : Int) (k t : Nat) (kind value : Int) (w : World) (hl : ts.length ≤ 9223372036854775807) (hk : k < 8) (ht : t < ts.length)
    (hb : Blk w r 178 (rdCells (.slice T ts.length c) v op)) (hT : RdInt w T ts) (B : Nat) (hB : B ≤ r) (cs : List Cl) (hcs : cs.length ≤ 1000) (ho : OwnCl w B v cs)
    (hkind : (kind != 0) = true) (hf : fitsB ts[t] kind = true) (ha : argB kind value = true) (hop : op k = 0) (hTB : ∀ b o, T = some ⟨b, o, none⟩ → b < B) :
    Calls Try.prog 82 #[.pointer (some ⟨r, 0, none⟩), .int .i64 i, .agg (Ev.enc ⟨k, t, kind, value⟩).toArray] w fun e w' => ∃ v', e = .returned (.int .i64 0) ∧
      Blk w' r 178 (rdCells (.slice T ts.length c) v' (upz op k (cs.length + 1))) ∧ OwnCl w' B v' (cs ++ [⟨k, t, kind, value, 0, i, -1⟩]) ∧ Below B w w' := by
  have hne := ho.ne hb (by decide)
  have hk0 : kind ≠ 0 := by simpa using hkind
  obtain ⟨A, d, rfl⟩ := Own.form ho
  obtain ⟨b, o, rfl, hb0⟩ := RdE.open hT (by omega)
  have hbB := hTB b o rfl
  have hFb : b ∉ r :: (Value.slice A cs.length d).ownBlock.toList := by
    intro h
    rcases List.mem_cons.1 h with h | h
    · omega
    · have := (World.ownsRow.lt ho b (by simpa using h)).1
      omega
  refine calls_T (S := [entBlk r 178 (rdCells (.slice (some ⟨b, o, none⟩) ts.length c) (.slice A cs.length d) op), entOwn Cl.enc 7 132 A d cs]) (r :: (Value.slice A cs.length d).ownBlock.toList)
    Try.func82 rfl Try.ntmps82 (by simp) ?_ ?_
  · refine ⟨Keeps.refl _ _, ?_, ?_⟩
    · intro e he
      rcases List.mem_cons.1 he with rfl | he
      · exact ⟨hb, fun g hg => by cases hg; exact ⟨hb.lt, .inl (by simp)⟩⟩
      · obtain rfl := List.mem_singleton.1 he
        exact ⟨ho.base, fun g hg => by
          have hg' : (Value.slice A cs.length d).ownBlock = some g := hg
          exact ⟨(World.ownsRow.lt ho g hg').2, .inl (List.mem_cons_of_mem _ (by simp [hg']))⟩⟩
    · refine List.pairwise_cons.2 ⟨fun f hf g hg hg' => ?_, List.pairwise_singleton _ _⟩
      obtain rfl := List.mem_singleton.1 hf
      cases hg
      exact hne hg'
  repeat' (first | ((first | with_reducible (first | apply TL_q | apply TD_q0 | apply TD_q1 | apply TD_q2 | apply TD_q3) | ((with_reducible (first | apply TD_q0y | apply TD_q1y)); exact rfl; exact rfl; (with_reducible exact rfl))); (first | exact QS.auto | ((with_reducible apply QS_load); exact rfl; (first | exact Lds.blk (by first | ((repeat (first | with_reducible exact List.mem_cons_self | with_reducible apply List.mem_cons_of_mem)); done) | (repeat (first | exact List.Mem.head _ | apply List.Mem.tail))) (nthV_rd _ _ _ _ (by omega)) | exact Lds.rd1 (by assumption) (by exact hFb) (by first | assumption | omega) rfl))); exact rfl) | ((with_reducible (first | apply TD_e2z | apply TD_e3z | apply TL_e | apply TD_e2 | apply TD_e3)); (first | exact ES.auto | ((with_reducible apply ES_store); exact rfl; exact rfl; (first | ((repeat (first | with_reducible exact Upd.here _ _ _ | with_reducible apply Upd.there)); done) | (repeat (first | exact Upd.here _ _ _ | apply Upd.there))); (first | exact rdCells_setv _ _ _ _ | exact rdCells_set _ _ _ _ (by omega) _); (first | (simp only [rdCells_size]; omega) | (simp [rdCells_size]; done) | (simp [rdCells_size]; omega)); exact rfl)); (first | exact rfl | exact ⟨rfl, rfl, rfl⟩); (first | (rintro _ _ ⟨rfl, rfl⟩) | (rintro _ _ ⟨g, rfl, rfl⟩) | (rintro _ _ ⟨A', c', rfl, rfl⟩)); (try refine ⟨SUB, ?_⟩)) | (refine GG ?_) | (refine GE ?_; (first | (rintro _ _ ⟨rfl, rfl⟩) | (rintro _ _ ⟨g, rfl, rfl⟩) | (rintro _ _ ⟨A', c', rfl, rfl⟩)); (try refine ⟨SUB, ?_⟩)) | ((refine GO2 ?_ ?_) <;> intro h <;> (try dsimp only at h) <;> (try (repeat (first | with_reducible (replace h := of_decide_eq_true h) | with_reducible (replace h := of_decide_eq_false h) | with_reducible (replace h := bnt h) | with_reducible (replace h := bnf h) | with_reducible (replace h := Int.not_lt.mp h) | with_reducible (replace h := Int.not_le.mp h) | with_reducible (replace h := band_dec h) | with_reducible (replace h := band_decF h) | with_reducible (replace h := bor_dec h) | with_reducible (replace h := bor_decF h)))) <;> (try (exfalso; first | contradiction | omega))) | (refine GOF ?_ ?_) | ((with_reducible apply T_draw (id := 1) 1000 (OT.seq [(0, 0), (1, 1), (0, 2), (0, 3), (0, 4), (1, 5), (0, 6), (0, 7), (0, 8), (0, 9), (1, 10), (0, 11), (0, 12), (0, 13), (0, 14), (0, 16), (0, 17), (0, 18), (1, 15), (1, 19), (0, 20), (0, 21), (0, 22)] .nil)); kernel_rfl; exact rfl; kernel_rfl; (repeat (first | with_reducible exact Blind.body | with_reducible apply Blind.seq | with_reducible apply Blind.block))) | ((with_reducible apply T_draw (id := 3) 1000 (OT.seq [(0, 0), (0, 1), (0, 3), (0, 4), (1, 2), (0, 5), (1, 6), (0, 7)] .nil)); kernel_rfl; exact rfl; kernel_rfl; (repeat (first | with_reducible exact Blind.body | with_reducible apply Blind.seq | with_reducible apply Blind.block))) | ((with_reducible apply T_draw (id := 5) 1000 (OT.seq [(0, 0), (0, 1), (0, 2), (0, 4), (0, 8), (1, 3), (1, 5), (0, 6), (1, 7), (1, 9), (2, 10), (0, 11), (0, 12), (0, 13), (0, 15), (1, 14), (1, 16), (2, 17), (0, 18), (0, 19), (0, 20)] .nil)); kernel_rfl; exact rfl; kernel_rfl; (repeat (first | with_reducible exact Blind.body | with_reducible apply Blind.seq | with_reducible apply Blind.block))) | ((with_reducible apply T_draw (id := 9) 16 (OT.seq [(0, 0), (0, 1), (0, 2), (0, 3), (0, 5), (0, 7), (0, 9), (0, 11), (0, 13), (1, 4), (1, 6), (1, 8), (1, 10), (1, 12), (0, 14), (2, 15), (3, 16), (0, 17), (0, 18), (3, 19)] .nil)); kernel_rfl; exact rfl; kernel_rfl; (repeat (first | with_reducible exact Blind.body | with_reducible apply Blind.seq | with_reducible apply Blind.block))) | ((with_reducible apply T_draw (id := 10) 11 (OT.seq [(0, 0), (0, 1), (0, 3), (0, 4), (0, 5), (0, 8), (0, 9), (1, 2), (1, 6), (0, 7), (0, 10), (3, 11)] .nil)); kernel_rfl; exact rfl; kernel_rfl; (repeat (first | with_reducible exact Blind.body | with_reducible apply Blind.seq | with_reducible apply Blind.block))) | ((with_reducible apply T_draw (id := 15) 1000 (OT.seq [(0, 0), (0, 1), (0, 2), (0, 4), (1, 3), (1, 5), (0, 6), (0, 7), (0, 8), (0, 9), (0, 10), (0, 12), (1, 11), (1, 13), (2, 14), (0, 15), (0, 16)] .nil)); kernel_rfl; exact rfl; kernel_rfl; (repeat (first | with_reducible exact Blind.body | with_reducible apply Blind.seq | with_reducible apply Blind.block))) | ((with_reducible apply T_draw (id := 18) 6 (OT.seq [(0, 0), (0, 1), (0, 3), (0, 4), (1, 2), (0, 5), (3, 6)] .nil)); kernel_rfl; exact rfl; kernel_rfl; (repeat (first | with_reducible exact Blind.body | with_reducible apply Blind.seq | with_reducible apply Blind.block))) | ((with_reducible (first | apply TD_e2z | apply TD_e3z | apply TL_e | apply TD_e2 | apply TD_e3)); ((with_reducible apply ES_callV); exact rfl; (intro w hw; exact Calls.same_below (fits_any _ _ _)); exact rfl); (first | exact rfl | exact ⟨rfl, rfl, rfl⟩); (rintro _ _ ⟨rfl, rfl⟩); (try refine ⟨SUB, ?_⟩)) | ((with_reducible (first | apply TD_e2z | apply TD_e3z | apply TL_e | apply TD_e2 | apply TD_e3)); ((with_reducible apply ES_callV); exact rfl; (intro w hw; exact Calls.same_below (argument_any _ _ _)); exact rfl); (first | exact rfl | exact ⟨rfl, rfl, rfl⟩); (rintro _ _ ⟨rfl, rfl⟩); (try refine ⟨SUB, ?_⟩)) | ((with_reducible (first | apply TD_e2z | apply TD_e3z | apply TL_e | apply TD_e2 | apply TD_e3)); ((with_reducible apply ES_append (enc := Cl.enc) (xs := [(⟨k, t, kind, value, 0, i, -1⟩ : Cl)])); exact rfl; exact rfl; exact Lies.blk (by first | ((repeat (first | with_reducible exact List.mem_cons_self | with_reducible apply List.mem_cons_of_mem)); done) | (repeat (first | exact List.Mem.head _ | apply List.Mem.tail))); exact fun _ => rfl; exact fun _ => rfl; (intro A' c'; first | ((repeat (first | with_reducible exact Upd.here _ _ _ | with_reducible apply Upd.there)); done) | (repeat (first | exact Upd.here _ _ _ | apply Upd.there))); (simp; omega); decide; exact rfl); (first | exact rfl | exact ⟨rfl, rfl, rfl⟩); (rintro _ _ ⟨A', c', rfl, rfl⟩); (try refine ⟨SUB, ?_⟩)))
  · exfalso
    have h1 : fitsB ts[t] kind = false := by assumption
    rw [hf] at h1; cases h1
  · exfalso
    have h1 : argB kind value = false := by assumption
    rw [ha] at h1; cases h1
  · (refine At_ret Try.results82 rfl (fun w' hw => ?_))
    have hF : ∀ g ∈ r :: (Value.slice A cs.length d).ownBlock.toList, B ≤ g := by
      intro g hg
      rcases List.mem_cons.1 hg with rfl | hg
      · exact hB
      · exact (World.ownsRow.lt ho g (by simpa using hg)).1
    have hBw : B ≤ w.heap.size := by have := hb.lt; omega
    have hb' := (hw.holds (entBlk r 178 _) (by first | ((repeat (first | with_reducible exact List.mem_cons_self | with_reducible apply List.mem_cons_of_mem)); done) | (repeat (first | exact List.Mem.head _ | apply List.Mem.tail)))).1
    refine ⟨_, rfl, ?_, hw.ownUp hF hBw (by first | ((repeat (first | with_reducible exact List.mem_cons_self | with_reducible apply List.mem_cons_of_mem)); done) | (repeat (first | exact List.Mem.head _ | apply List.Mem.tail))), hw.keeps.upto hF hBw⟩
    have e : (((cs ++ [(⟨k, t, kind, value, 0, i, -1⟩ : Cl)]).length : Nat) : Int) = (cs.length : Int) + 1 := by simp
    rw [← e]
    exact hb'
end Go.Proofs.Ytnflkmjfhbfekaa

namespace Go.Proofs.Ytnflkmjfhbfekaa
open Go.RowKit

/-- one step of the reader: the error, the calls so far, who is open (1 more than the number of the call) -/
def evP (ts : List Int) (cs : List Cl) (op : Nat → Int) (i : Int) (x : Ev) : Int × List Cl × (Nat → Int) :=
  if formBad ts x = true then (3, cs, op)
  else if x.kind ≠ 0 then
    if (fitsB (ts.getD x.thing.toNat 0) x.kind && argB x.kind x.value) = false then (3, cs, op)
    else if 0 < op x.who.toNat then (5, cs, op)
    else (0, cs ++ [⟨x.who, x.thing, x.kind, x.value, 0, i, -1⟩], upz op x.who.toNat (cs.length + 1))
  else if op x.who.toNat = 0 then (4, cs, op)
  else if (cs.getD (op x.who.toNat - 1).toNat default).thing = x.thing ∧ resB (cs.getD (op x.who.toNat - 1).toNat default).kind x.value = true then
    (0, cs.set (op x.who.toNat - 1).toNat { cs.getD (op x.who.toNat - 1).toNat default with res := x.value, to := i }, upz op x.who.toNat 0)
  else (3, cs, op)
def OpOk (cs : List Cl) (op : Nat → Int) : Prop := ∀ k, k < 8 → 0 ≤ op k ∧ op k ≤ cs.length
theorem evP_ok {ts : List Int} {cs : List Cl} {op : Nat → Int} {i : Int} {x : Ev} (h : OpOk cs op) : OpOk (evP ts cs op i x).2.1 (evP ts cs op i x).2.2 := by
  unfold evP
  repeat' split
  all_goals first | exact h | skip
  · intro k hk
    have := h k hk
    simp only [upz, List.length_append, List.length_singleton]
    split <;> omega
  · intro k hk
    have := h k hk
    simp only [upz, List.length_set]
    split <;> omega

theorem event_any (r : Nat) (T : Option Addr) (c : Nat) (ts : List Int) (v : Value) (op : Nat → Int) (i : Int) (x : Ev) (w : World) (hl : ts.length ≤ 9223372036854775807)
    (hb : Blk w r 178 (rdCells (.slice T ts.length c) v op)) (hT : RdInt w T ts) (B : Nat) (hB : B ≤ r) (cs : List Cl) (hcs : cs.length ≤ 1000) (ho : OwnCl w B v cs) (hop : OpOk cs op) (hTB : 0 < ts.length → ∀ b o, T = some ⟨b, o, none⟩ → b < B) :
    Calls Try.prog 82 #[.pointer (some ⟨r, 0, none⟩), .int .i64 i, .agg (Ev.enc x).toArray] w fun e w' => ∃ v', e = .returned (.int .i64 (evP ts cs op i x).1) ∧
      ((evP ts cs op i x).1 = 0 → Blk w' r 178 (rdCells (.slice T ts.length c) v' (evP ts cs op i x).2.2) ∧ OwnCl w' B v' (evP ts cs op i x).2.1) ∧ Below B w w' := by
  have hBw : B ≤ w.heap.size := by have := hb.lt; omega
  have bad : ∀ z : Int, z ≠ 0 → (evP ts cs op i x).1 = z → (Calls Try.prog 82 #[.pointer (some ⟨r, 0, none⟩), .int .i64 i, .agg (Ev.enc x).toArray] w fun e w' => e = .returned (.int .i64 z) ∧ Below w.heap.size w w') →
      Calls Try.prog 82 #[.pointer (some ⟨r, 0, none⟩), .int .i64 i, .agg (Ev.enc x).toArray] w fun e w' => ∃ v', e = .returned (.int .i64 (evP ts cs op i x).1) ∧
      ((evP ts cs op i x).1 = 0 → Blk w' r 178 (rdCells (.slice T ts.length c) v' (evP ts cs op i x).2.2) ∧ OwnCl w' B v' (evP ts cs op i x).2.1) ∧ Below B w w' := by
    intro z hz he hc
    refine hc.mono fun e w' ⟨h1, h2⟩ => ⟨v, ?_, fun h => absurd (he.symm.trans h) hz, h2.mono hBw⟩
    rw [h1, he]
  by_cases hf : formBad ts x = true
  · exact bad 3 (by decide) (by simp [evP, hf]) (event_form r T c ts v op i x w hl hb hf)
  · obtain ⟨who, thing, kind, value⟩ := x
    have hff := hf
    simp only [formBad, Bool.not_eq_true', Bool.not_eq_false', decide_eq_true_eq, decide_eq_false_iff_not, Bool.and_eq_true, Bool.or_eq_true, Bool.or_eq_false_iff, Bool.and_eq_false_iff, not_or, Int.not_lt, Int.not_le] at hff
    obtain ⟨⟨⟨q1, q2⟩, q3⟩, q4⟩ := hff
    obtain ⟨k, rfl⟩ := Int.eq_ofNat_of_zero_le q1
    obtain ⟨t, rfl⟩ := Int.eq_ofNat_of_zero_le q3
    have hk : k < 8 := by omega
    have ht : t < ts.length := by omega
    have hg : ts.getD t 0 = ts[t] := by simp [ht]
    have hok := hop k hk
    by_cases hkind : kind = 0
    · subst hkind
      by_cases h0 : op k = 0
      · exact bad 4 (by decide) (by simp [evP, hf, h0]) (event_none r T c ts v op i k t value w hl hk ht hb h0)
      · obtain ⟨m, hm⟩ : ∃ m : Nat, op k = (m : Int) + 1 := ⟨(op k - 1).toNat, by omega⟩
        have hmc : m < cs.length := by omega
        have hd : cs.getD m default = cs[m] := by simp [hmc]
        by_cases hth : cs[m].thing = t ∧ resB cs[m].kind value = true
        · have e : evP ts cs op i ⟨k, t, 0, value⟩ = (0, cs.set m { cs[m] with res := value, to := i }, upz op k 0) := by
            simp [evP, hf, hm, hmc, hth, show ¬ (m : Int) + 1 = 0 by omega]
          rw [e]
          exact (event_end_ok r T c ts v op i k t value w hl hk ht hb B hB cs hcs ho m hmc hm hth.1 hth.2).mono fun e w' ⟨h1, h2, h3, h4⟩ => ⟨v, h1, fun _ => ⟨h2, h3⟩, h4⟩
        · refine bad 3 (by decide) (by simp [evP, hf, hm, hmc, hth, show ¬ (m : Int) + 1 = 0 by omega]) (event_end_bad r T c ts v op i k t value w hl hk ht hb B cs hcs ho m hmc hm fun h => ?_)
          cases hr : resB cs[m].kind value
          · rfl
          · exact absurd ⟨h, hr⟩ hth
    · by_cases hfa : (fitsB ts[t] kind && argB kind value) = true
      · have hfa' : fitsB ts[t] kind = true ∧ argB kind value = true := by simpa using hfa
        by_cases h0 : 0 < op k
        · exact bad 5 (by decide) (by simp [evP, hf, hkind, ht, hfa', h0]) (event_twice r T c ts v op i k t kind value w hl hk ht hb hT (by simpa using hkind) hfa'.1 hfa'.2 h0)
        · have e : evP ts cs op i ⟨k, t, kind, value⟩ = (0, cs ++ [⟨k, t, kind, value, 0, i, -1⟩], upz op k (cs.length + 1)) := by
            simp [evP, hf, hkind, ht, hfa', h0]
          rw [e]
          exact (event_call_ok r T c ts v op i k t kind value w hl hk ht hb hT B hB cs hcs ho (by simpa using hkind) hfa'.1 hfa'.2 (by omega) (hTB (by omega))).mono fun e w' ⟨v', h1, h2, h3, h4⟩ => ⟨v', h1, fun _ => ⟨h2, h3⟩, h4⟩
      · have hfb : (fitsB ts[t] kind && argB kind value) = false := by simpa using hfa
        exact bad 3 (by decide) (by simp only [evP, if_neg hf, Int.toNat_natCast, hg, hfb]; simp [hkind]) (event_call_bad r T c ts v op i k t kind value w hl hk ht hb hT (by simpa using hkind) hfb)
instance : Inhabited Ev := ⟨⟨0, 0, 0, 0⟩⟩
def stP (ts : List Int) (l : List Ev) : Nat → List Cl × (Nat → Int)
  | 0 => ([], fun _ => 0)
  | k + 1 => (evP ts (stP ts l k).1 (stP ts l k).2 k (l.getD k default)).2
def erP (ts : List Int) (l : List Ev) (k : Nat) : Int := (evP ts (stP ts l k).1 (stP ts l k).2 k (l.getD k default)).1
theorem stP_ok (ts : List Int) (l : List Ev) : ∀ k, OpOk (stP ts l k).1 (stP ts l k).2
  | 0 => fun k hk => by simp [stP]
  | k + 1 => evP_ok (stP_ok ts l k)
theorem evP_len (ts : List Int) (cs : List Cl) (op : Nat → Int) (i : Int) (x : Ev) : (evP ts cs op i x).2.1.length ≤ cs.length + 1 := by
  unfold evP
  repeat' split
  all_goals simp
theorem stP_len (ts : List Int) (l : List Ev) : ∀ k, (stP ts l k).1.length ≤ k
  | 0 => by simp [stP]
  | k + 1 => by have := stP_len ts l k; have := evP_len ts (stP ts l k).1 (stP ts l k).2 k (l.getD k default); simp only [stP]; omega
/-- the first event that can't be read (their number: there is none) -/
def failP (ts : List Int) (l : List Ev) : Nat := ((List.range l.length).find? fun k => decide (erP ts l k ≠ 0)).getD l.length
def callsP (ts : List Int) (l : List Ev) : List Cl × Int × Int :=
  if typesE ts ≠ 0 then ([], 0, typesE ts)
  else if 200 < l.length then ([], 0, 2)
  else if failP ts l < l.length then ([], failP ts l, erP ts l (failP ts l))
  else ((stP ts l l.length).1, 0, 0)
theorem failP_at {ts : List Int} {l : List Ev} {k : Nat} (hk : k < l.length) (h : ∀ j, j < k → erP ts l j = 0) (he : erP ts l k ≠ 0) : failP ts l = k := by
  unfold failP
  have : (List.range l.length).find? (fun k => decide (erP ts l k ≠ 0)) = some k := by
    rw [List.find?_range_eq_some]
    exact ⟨by simpa using he, by simpa using hk, fun j hj => by simp [h j hj]⟩
  rw [this]; rfl
theorem failP_none {ts : List Int} {l : List Ev} (h : ∀ j, j < l.length → erP ts l j = 0) : failP ts l = l.length := by
  unfold failP
  have : (List.range l.length).find? (fun k => decide (erP ts l k ≠ 0)) = none := by
    rw [List.find?_eq_none]
    intro j hj
    simp [h j (by simpa using hj)]
  rw [this]; rfl

theorem RdEv.at_ {w wr : World} {A : Option Addr} {l : List Ev} (h : RdEv w A l) (hb : Below w.heap.size w wr) (k : Nat) (hk : k < l.length) :
    ∃ b o, A = some ⟨b, o, none⟩ ∧ b < w.heap.size ∧ b < wr.heap.size ∧ wr.cell? ⟨b, o + k * 4, none⟩ = some (.int .i64 l[k].who) ∧ wr.cell? ⟨b, o + k * 4 + 1, none⟩ = some (.int .i64 l[k].thing) ∧ wr.cell? ⟨b, o + k * 4 + 2, none⟩ = some (.int .i64 l[k].kind) ∧ wr.cell? ⟨b, o + k * 4 + 3, none⟩ = some (.int .i64 l[k].value) := by
  obtain ⟨b, o, h1, h2, h3, h4⟩ := RdE.at_ h hb k hk
  exact ⟨b, o, h1, h2, h3, h4 0 _ rfl, h4 1 _ rfl, h4 2 _ rfl, h4 3 _ rfl⟩

set_option maxHeartbeats 2000000 in
theorem calls_any (T A : Option Addr) (ct c : Nat) (ts : List Int) (l : List Ev) (w : World) (hts : ts.length ≤ 9223372036854775807) (hl : l.length ≤ 9223372036854775807) (hT : RdInt w T ts) (hA : RdEv w A l) :
    Calls Try.prog 51 #[.slice T ts.length ct, .slice A l.length c] w fun e w' => ∃ A' c', e = .returned (.tuple #[.slice A' (callsP ts l).1.length c', .int .i64 (callsP ts l).2.1, .int .i64 (callsP ts l).2.2]) ∧ OwnCl w' w.heap.size (.slice A' (callsP ts l).1.length c') (callsP ts l).1 ∧ Below w.heap.size w w' := by
  by_cases hty : typesE ts = 0
  · by_cases h2 : 200 < l.length
    · have he : callsP ts l = ([], 0, 2) := by simp [callsP, hty, h2]
      have He := Lib.hid he
      clear he
      go_enter Try.func51, Try.ntmps51
      go_wp2_with (go_at_call 68; refine (types_any _ _ _ _ hts hT).mono ?_; rintro e w1 ⟨rfl, hb1⟩; rw [hty])
      go_ret3
      rw [He.out]
      exact ⟨none, 0, rfl, Own.nil _ _, hb1⟩
    · have hl2 : l.length ≤ 200 := by omega
      have Hty := Lib.hid hty
      clear h2
      have hTB : Hid (0 < ts.length → ∀ b o, T = some ⟨b, o, none⟩ → b < w.heap.size) := Lib.hid fun h b o e => by
        obtain ⟨b', o', h1, h2⟩ := hT.open h
        rw [e] at h1; cases h1; exact h2
      go_enter Try.func51, Try.ntmps51
      go_wp2_with (go_at_call 68; refine (types_any _ _ _ _ hts hT).mono ?_; rintro e w1 ⟨rfl, hb1⟩; rw [hty])
      have hs1 := hb1.size
      go_loopw [25] (fun i wr => ∃ (k : Nat) (v : Value), k ≤ l.length ∧ i = .int .i64 k ∧ Hid (∀ j, j < k → erP ts l j = 0) ∧ Blk wr w1.heap.size 178 (rdCells (.slice T ts.length ct) v (stP ts l k).2) ∧ OwnCl wr w.heap.size v (stP ts l k).1 ∧ Below w.heap.size w wr) (fun i _ => l.length - (intOf i).toNat)
      case atStart => exact ⟨0, _, by omega, rfl, Lib.hid (by omega), Blk.new _ _ _, Own.nil _ _, by (repeat (first | assumption | exact Below.refl _ _ | refine bel_alloc ?_ _ | refine Below.drew ?_ | refine below_drewN' ?_ _ | (refine bel_set ?_ (by first | (simp; done) | (simp; omega)) _) | (refine bel_row ?_ (by first | (simp; done) | (simp; omega)) _)))⟩
      case round =>
        obtain ⟨k, v, hk, rfl, hno, hblk, hown, hbel⟩ := hrel
        have hlen := stP_len ts l k
        by_cases hlt : k < l.length
        · obtain ⟨b, o, rfl, hb0, hbs, c0, c1, c2, c3⟩ := hA.at_ hbel k hlt
          have hg : l.getD k default = l[k] := by simp [hlt]
          have a5 := hblk.lt
          by_cases he : erP ts l k = 0
          · have hev : (evP ts (stP ts l k).1 (stP ts l k).2 k l[k]).1 = 0 := by rw [← hg]; exact he
            have Hev := Lib.hid hev
            have He := Lib.hid he
            clear hev he
            go_wp2_with (go_at_call 82; refine (event_any _ T ct ts v (stP ts l k).2 k l[k] _ hts (hblk.alloc _) (RdE.below hT (by (repeat (first | assumption | exact Below.refl _ _ | refine bel_alloc ?_ _ | refine Below.drew ?_ | refine below_drewN' ?_ _ | (refine bel_set ?_ (by first | (simp; done) | (simp; omega)) _) | (refine bel_row ?_ (by first | (simp; done) | (simp; omega)) _))))) w.heap.size (by omega) (stP ts l k).1 (by omega) (Own.alloc hown _) (stP_ok ts l k) hTB.out).mono ?_; rintro e w2 ⟨v', he', hst, hbw⟩; rw [Hev.out] at he'; subst he')
            go_roundw
            case rel =>
              have h2 := hst Hev.out
              refine ⟨k + 1, v', by omega, by go_num, Lib.hid (fun j hj => ?_), ?_, ?_, ?_⟩
              · by_cases e : j = k
                · subst e; exact He.out
                · exact hno.out j (by omega)
              · simp only [stP, hg]; exact h2.1
              · simp only [stP, hg]; exact h2.2
              · exact (bel_alloc hbel _).trans hbw
            case measure => simp [intOf]; omega
          · have hev : (evP ts (stP ts l k).1 (stP ts l k).2 k l[k]).1 = erP ts l k := by rw [← hg]; rfl
            have hn : (erP ts l k != 0) = true := by simpa using he
            have hcp : callsP ts l = ([], (k : Int), erP ts l k) := by
              have hf := failP_at hlt hno.out he
              simp only [callsP, Hty.out, hf]
              rw [if_neg (by simp), if_neg (by omega), if_pos hlt]
            have Hev := Lib.hid hev
            have Hcp := Lib.hid hcp
            clear hev hcp he
            go_wp2_with (go_at_call 82; refine (event_any _ T ct ts v (stP ts l k).2 k l[k] _ hts (hblk.alloc _) (RdE.below hT (by (repeat (first | assumption | exact Below.refl _ _ | refine bel_alloc ?_ _ | refine Below.drew ?_ | refine below_drewN' ?_ _ | (refine bel_set ?_ (by first | (simp; done) | (simp; omega)) _) | (refine bel_row ?_ (by first | (simp; done) | (simp; omega)) _))))) w.heap.size (by omega) (stP ts l k).1 (by omega) (Own.alloc hown _) (stP_ok ts l k) hTB.out).mono ?_; rintro e w2 ⟨v', he', hst, hbw⟩; rw [Hev.out] at he'; subst he')
            go_ret3
            rw [Hcp.out]
            exact ⟨none, 0, rfl, Own.nil _ _, (bel_alloc hbel _).trans hbw⟩
        · obtain rfl : k = l.length := by omega
          have hcp : callsP ts l = ((stP ts l l.length).1, 0, 0) := by
            have hf := failP_none hno.out
            simp only [callsP, Hty.out, hf]
            rw [if_neg (by simp), if_neg (by omega), if_neg (by omega)]
          have Hcp := Lib.hid hcp
          obtain ⟨A', c', rfl⟩ := Own.form hown
          have d0 := (hblk.cell 1).trans (rdCells_1 _ _ _)
          have a5 := hblk.lt
          clear hcp
          go_wp2_with (fail)
          go_ret3
          rw [Hcp.out]
          exact ⟨A', c', rfl, hown, hbel⟩
  · have he : callsP ts l = ([], 0, typesE ts) := by simp [callsP, hty]
    have He := Lib.hid he
    have hn : (typesE ts != 0) = true := by simpa using hty
    clear he hty
    go_enter Try.func51, Try.ntmps51
    go_wp2_with (go_at_call 68; refine (types_any _ _ _ _ hts hT).mono ?_; rintro e w1 ⟨rfl, hb1⟩)
    go_ret3
    rw [He.out]
    exact ⟨none, 0, rfl, Own.nil _ _, hb1⟩
end Go.Proofs.Ytnflkmjfhbfekaa

namespace Go.Proofs.Ytnflkmjfhbfekaa
open Go.RowKit
theorem relCells_get0 (n : Int) (f : Nat → Nat) (h : 0 < (relCells n f).size) : (relCells n f)[0] = .int .i64 n := by
  have := relCells_n n f
  rw [Array.getElem?_eq_getElem h] at this
  exact Option.some.inj this
theorem relCells_getS (n : Int) (f : Nat → Nat) (i : Nat) (h : 1 + i < (relCells n f).size) : (relCells n f)[1 + i] = .int .u16 (f i) := by
  have := relCells_at n f i (by rw [relCells_size] at h; omega)
  rw [Array.getElem?_eq_getElem h] at this
  exact Option.some.inj this
def eqTo (f g : Nat → Nat) (is : List Nat) : Bool := is.all fun i => f i == g i
theorem rel_info (n : Int) (f : Nat → Nat) : (Try.prog.info? 79).map (·.size) = some (relCells n f).size := by
  rw [relCells_size]; kernel_rfl
theorem exec_load_rel (ev : Operand → Value) (dst : Option Tmp) (x : Operand) (t : TypeId) (pos : String) (after : Array Edge) (guard : Option (Nat × Bool)) (w : World) (h : isRow w 13 (ev x) = true) :
    (execOp ev { dst, op := .load 79 x, type := t, pos, after, guard }).run Try.prog w = .ok (.value (.agg (rowOf w (ptrBlk (ev x))))) w :=
  exec_load_row 79 13 _ (by decide) Try.underlying79 rfl (by kernel_rfl) ev dst x t pos after guard w h
theorem exec_store_rel (ev : Operand → Value) (dst : Option Tmp) (x y : Operand) (t : TypeId) (pos : String) (after : Array Edge) (guard : Option (Nat × Bool)) (w : World) (h : isRow w 13 (ev x) = true) (h2 : isAggOf 13 (ev y) = true) :
    (execOp ev { dst, op := .store 79 x y, type := t, pos, after, guard }).run Try.prog w = .ok .skip (w.setRow (ptrBlk (ev x)) (aggOf (ev y))) :=
  exec_store_row 79 13 (by decide) (by kernel_rfl) ev dst x y t pos after guard w h h2
theorem u16s_at (f : Nat → Nat) (i : Nat) (h : i < 12) : (u16s f 12).toArray[i]? = some (.int .u16 (f i)) := by simp [u16s, h]
theorem relCells_ext (n : Int) (f : Nat → Nat) : (relCells n f).extract 1 13 = (u16s f 12).toArray := by
  rfl
theorem run_items (f g : Nat → Nat) (w : World) (d : Nat) : ∀ is : List Nat, (∀ i ∈ is, i < 12) →
    (Op.eqItems (d + 1) 76 1 (u16s f 12).toArray (u16s g 12).toArray is).run Try.prog w = .ok (eqTo f g is) w
  | [], _ => by simp [Op.eqItems, eqTo]
  | i :: is, h => by
    have ih := run_items f g w d is (fun j hj => h j (List.mem_cons_of_mem _ hj))
    have hi := h i (List.mem_cons_self ..)
    have p : ∀ f : Nat → Nat, (part 76 (u16s f 12).toArray (i * 1)).run Try.prog w = .ok (.int .u16 (f i)) w := fun f => by
      simp [part, u16s_at f i hi]
    simp only [Op.eqItems, Sem.run_bind, p, Result.andThen_ok, run_equalIn_int w d 76 .u16 .u16 _ _ Try.underlying76]
    by_cases he : f i = g i
    · have : (((f i : Nat) : Int) == (g i : Nat)) = true := by simp [he]
      simp [this, ih, eqTo, he]
    · have : (((f i : Nat) : Int) == (g i : Nat)) = false := by simp; omega
      simp [this, eqTo, he]
theorem eqTo_iff (f g : Nat → Nat) (n : Nat) : eqTo f g (List.range n) = true ↔ ∀ i, i < n → f i = g i := by
  simp [eqTo]
def relEq (f g : Nat → Nat) : Bool := eqTo f g (List.range 12)
theorem relEq_iff (f g : Nat → Nat) : relEq f g = true ↔ ∀ i, i < 12 → f i = g i := eqTo_iff f g 12
theorem relEq_same (f g : Nat → Nat) (h : ∀ i, i < 12 → f i = g i) : relEq f g = true := (relEq_iff f g).2 h
set_option maxRecDepth 40000 in
theorem run_arr_rel (f g : Nat → Nat) (d : Nat) (w : World) : (Op.equalIn (d + 2) 77 (.agg (u16s f 12).toArray) (.agg (u16s g 12).toArray)).run Try.prog w = .ok (relEq f g) w := by
  rw [run_equalIn_array w (d + 1) _ _ Try.underlying77 (i := Try.t76) Try.type76]
  exact run_items f g w d (List.range 12) (by simp)
theorem run_eql_rel (n m : Int) (f g : Nat → Nat) (w : World) :
    (binOp .eql 79 (.agg (relCells n f)) (.agg (relCells m g))).run Try.prog w = .ok (.bool (n == m && relEq f g)) w := by
  have ha := run_arr_rel f g 9997
  simp only [Nat.reduceAdd] at ha
  rw [run_eql_struct]
  go_simp
  simp only [relCells_n, relCells_ext, Sem.run_pure, Result.andThen_ok, ha]
  rw [run_equalIn_int w 9998 3 .i64 .i64 _ _ Try.underlying3]
  simp only [Result.andThen_ok]
  cases h : (n == m)
  · simp
  · simp only [Bool.true_eq_false, if_false]
    cases relEq f g <;> simp
set_option maxRecDepth 40000 in
theorem run_neq_rel (n m : Int) (f g : Nat → Nat) (w : World) :
    (binOp .neq 79 (.agg (relCells n f)) (.agg (relCells m g))).run Try.prog w = .ok (.bool (!(n == m && relEq f g))) w := by
  have h := run_eql_rel n m f g w
  rw [run_eql_struct] at h
  rw [run_neq_struct]
  cases hr : (Op.equalIn 10000 79 (.agg (relCells n f)) (.agg (relCells m g))).run Try.prog w with
  | ok b w' =>
    rw [hr] at h
    simp only [Result.andThen_ok] at h ⊢
    injection h with h1 h2
    injection h1 with h1
    rw [h1, h2]
  | halt x w' => rw [hr] at h; cases h
theorem run_eqGuard_rel (op : BinOp) (x y : Operand) (xs ys : Array Value) (w : World) : (eqGuard op 79 x y (.agg xs) (.agg ys)).run Try.prog w = .ok () w :=
  run_eqGuard_agg w op _ x y xs ys Try.eqGuardType79
end Go.Proofs.Ytnflkmjfhbfekaa
