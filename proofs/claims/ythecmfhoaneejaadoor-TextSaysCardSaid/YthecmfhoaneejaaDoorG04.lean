/- Lemmas for the walks (T5, Ty, Tx2, T6, T7). No condition. -/
import Derived.Test.YthecmfhoaneejaaDoorG03
import Derived.OrdersHeld
import Derived.Test.YthecmfhoaneejaaDoorProg
import Derived.Test.YthecmfhoaneejaaDoorG02
import Derived.Deep.AppendSrc
import Derived.Test.YthecmfhoaneejaaDoorG01
import Derived.WalkSpells
set_option linter.unusedSimpArgs false
set_option linter.unusedVariables false
set_option linter.unusedSectionVars false
set_option linter.unnecessarySimpa false
namespace Go.Proofs.YthecmfhoaneejaaDoor
open Go.RowKit

section
variable {P : Program} {ops : Array Oper} {Q : Exit → Act → World → Prop}
def closedL (ops : Array Oper) (L : Array Bool) : Prop := ∀ j oj, ops[j]? = some oj → L.getD j false = true → ∀ ed ∈ oj.after, Region.binds .any ed = true → L.getD ed.on false = true
def waitsT (ops : Array Oper) : Nat → Nat → Nat → Bool
  | 0, _, _ => false
  | f + 1, e, i => match ops[e]? with
    | some oe => oe.after.any fun ed => Region.binds .any ed && (ed.on == i || waitsT ops f ed.on i)
    | none => false
theorem waitsT_listed {L : Array Bool} (hc : closedL ops L) {i : Nat} : ∀ (f e : Nat), waitsT ops f e i = true → L.getD e false = true → L.getD i false = true
  | 0, _, h, _ => by cases h
  | f + 1, e, h, hl => by
    unfold waitsT at h
    split at h
    · rename_i oe hoe
      obtain ⟨ed, he, hb⟩ := Array.any_eq_true'.1 h
      simp only [Bool.and_eq_true, Bool.or_eq_true, beq_iff_eq] at hb
      have h1 := hc e oe hoe hl ed he hb.1
      rcases hb.2 with h2 | h2
      · rw [← h2]; exact h1
      · exact waitsT_listed hc f ed.on h2 h1
    · cases h
theorem closedL.set {L : Array Bool} (hc : closedL ops L) {i : Nat} (hi : i ∈ Region.ready .any ops L) : closedL ops (L.setIfInBounds i true) := by
  obtain ⟨_, oi, hoi, hall⟩ := mem_ready.1 hi
  intro j oj hj hl ed he hb
  by_cases hij : i = j
  · subst hij
    obtain rfl : oj = oi := Option.some.inj (hj.symm.trans hoi)
    exact getD_set_true (hall ed he hb)
  · rw [getD_set_ne false hij] at hl
    exact getD_set_true (hc j oj hj hl ed he hb)
theorem getD_false_of_true {L : Array Bool} {i : Nat} (h : L.getD i true = false) : L.getD i false = false := by
  rcases Nat.lt_or_ge i L.size with h' | h'
  · simp [h'] at h ⊢; exact h
  · simp [Array.getElem?_eq_none h'] at h

/-- whatever order is picked; behind each operation B holds, and F till number e has come up -/
def wpAnyG (P : Program) (ops : Array Oper) (Q : Exit → Act → World → Prop) (e : Nat) (B F : World → Prop) : Nat → Array Bool → Act → World → Prop
  | 0, L, a, w => Region.ready .any ops L = [] ∧ Q .normal a w
  | n + 1, L, a, w => (Region.ready .any ops L = [] → Q .normal a w) ∧
    ∀ i ∈ Region.ready .any ops L, wpOp P ops Q i (fun a' w' => (B w' ∧ ((L.setIfInBounds i true).getD e false = false → F w')) ∧ wpAnyG P ops Q e B F n (L.setIfInBounds i true) a' w') a w
variable {e : Nat} {B F : World → Prop}
theorem wpAny_of_G : ∀ (n : Nat) (L : Array Bool) (a : Act) (w : World), wpAnyG P ops Q e B F n L a w → wpAny P .any ops Q n L a w
  | 0, _, _, _, h => h
  | n + 1, _, _, _, h => ⟨h.1, fun i hi => wpOp_mono (fun a' w' h' => wpAny_of_G n _ a' w' h'.2) (h.2 i hi)⟩
/-- an operation that yields its value in every world that may be met ahead of it may be taken first -/
theorem wpAnyG_first {i : Nat} {oi : Oper} {v : Value} (hi : ops[i]? = some oi) (hsel : Region.noSelect ops = true) (hie : i ≠ e) (G : World → Prop)
    (hG : ∀ (L : Array Bool) w, L.size = ops.size → closedL ops L → L.getD i false = false → B w → (L.getD e false = false → F w) → G w)
    (hQ : ∀ c a w, Q (.panic c) (a.put oi.dst v) w → Q (.panic c) a w) :
    ∀ (n : Nat) (L : Array Bool) (a : Act) (w : World), L.size = ops.size → closedL ops L → B w → (L.getD e false = false → F w) →
      (∀ j oj, ops[j]? = some oj → j ≠ i → L.getD j true = false → (∀ ed ∈ oj.after, Region.binds .any ed = true → ed.on ≠ i) → oi.apart ops oj = true) →
      i ∈ Region.ready .any ops L → YieldsIf P ops G oi v a →
      wpAnyG P ops Q e B F n (L.setIfInBounds i true) (a.put oi.dst v) w → wpAnyG P ops Q e B F (n + 1) L a w := by
  intro n
  induction n with
  | zero =>
    intro L a w hz hc hB hF _ hr hy H
    have hGw : G w := hG L w hz hc (getD_false_of_true (mem_ready.1 hr).1) hB hF
    refine ⟨fun h => (by rw [h] at hr; cases hr), fun j hj => ?_⟩
    by_cases hji : j = i
    · subst hji
      exact hy.wpOp hi hGw ⟨⟨hB, fun h => hF (by rwa [getD_set_ne false hie] at h)⟩, H⟩
    · have := ready_mono hj hji
      rw [H.1] at this
      cases this
  | succ n ih =>
    intro L a w hz hc hB hF hfree hr hy H
    have hGw : G w := hG L w hz hc (getD_false_of_true (mem_ready.1 hr).1) hB hF
    refine ⟨fun h => (by rw [h] at hr; cases hr), fun j hj => ?_⟩
    by_cases hji : j = i
    · subst hji
      exact hy.wpOp hi hGw ⟨⟨hB, fun h => hF (by rwa [getD_set_ne false hie] at h)⟩, H⟩
    · have h1 := H.2 j (ready_mono hj hji)
      obtain ⟨hjun, oj, hoj, hall⟩ := mem_ready.1 hj
      have hnot : ∀ ed ∈ oj.after, Region.binds .any ed = true → ed.on ≠ i := fun ed he hb heq => by
        have h1 := hall ed he hb
        have h0 := (mem_ready.1 hr).1
        rw [heq] at h1
        rcases Nat.lt_or_ge i L.size with h' | h'
        · simp [h'] at h0 h1; rw [h0] at h1; cases h1
        · simp [Array.getElem?_eq_none h'] at h1
      have h2 := wpOp_putIf hoj (hfree j oj hoj hji hjun hnot) (fun cs b => Region.noSelect_spec hsel i oi cs b hi) (fun cs b => Region.noSelect_spec hsel j oj cs b hoj) hQ hy h1
      have hfree' : ∀ k ok, ops[k]? = some ok → k ≠ i → (L.setIfInBounds j true).getD k true = false →
          (∀ ed ∈ ok.after, Region.binds .any ed = true → ed.on ≠ i) → oi.apart ops ok = true := fun k ok hk hki hun hno => by
        refine hfree k ok hk hki ?_ hno
        by_cases hjk : j = k
        · subst hjk; exact hjun
        · rw [getD_set_ne true hjk] at hun; exact hun
      refine wpOp_mono (fun a' w' h3 => ?_) h2
      obtain ⟨hy', ⟨hB', hF'⟩, hK⟩ := h3
      rw [Array.setIfInBounds_comm _ _ (Ne.symm hji)] at hF' hK
      have hF2 : (L.setIfInBounds j true).getD e false = false → F w' := fun h => hF' (by rw [getD_set_ne false hie]; exact h)
      exact ⟨⟨hB', hF2⟩, ih (L.setIfInBounds j true) a' w' (by simpa using hz) (hc.set hj) hB' hF2 hfree' (ready_mono hr (Ne.symm hji)) hy' hK⟩
theorem wpAnyG_alone {i n : Nat} {L : Array Bool} {a : Act} {w : World} (hr : Region.ready .any ops L = [i])
    (h : wpOp P ops Q i (fun a' w' => (B w' ∧ ((L.setIfInBounds i true).getD e false = false → F w')) ∧ wpAnyG P ops Q e B F n (L.setIfInBounds i true) a' w') a w) : wpAnyG P ops Q e B F (n + 1) L a w :=
  ⟨fun h0 => (by rw [hr] at h0; cases h0), fun j hj => by
    rw [hr] at hj
    obtain rfl : j = i := by simpa using hj
    exact h⟩
end

/-- an order, or more than one: 0: reads nothing that may be written; 1: reads, ahead of number e; 2: acts, ahead of e; 3: acts, from e on -/
inductive OT where
  | nil : OT
  | step (m i : Nat) (r : OT) : OT
  | fork (x y : OT) : OT
inductive Tr where
  | nil : Tr
  | step (m i : Nat) (o : Oper) (r : Tr) : Tr
  | fork (x y : Tr) : Tr
def Tr.head : Tr → Option Oper
  | .step _ _ o _ => some o
  | _ => none
def OT.seq : List (Nat × Nat) → OT → OT
  | [], t => t
  | (m, i) :: r, t => .step m i (OT.seq r t)
def nthO : List Oper → Nat → Option Oper
  | [], _ => none
  | o :: _, 0 => some o
  | _ :: l, i + 1 => nthO l i
theorem nthO_eq : ∀ (l : List Oper) (i : Nat), l[i]? = nthO l i
  | [], i => by simp [nthO]
  | o :: l, 0 => by simp [nthO]
  | o :: l, i + 1 => by simpa [nthO] using nthO_eq l i
def picks (l : List Oper) : OT → Option Tr
  | .nil => some .nil
  | .step m i r => match nthO l i, picks l r with
    | some o, some t => some (.step m i o t)
    | _, _ => none
  | .fork x y => match picks l x, picks l y with
    | some a, some b => some (.fork a b)
    | _, _ => none
def Tr.ok (l : List Oper) : Tr → Prop
  | .nil => True
  | .step _ i o r => l[i]? = some o ∧ r.ok l
  | .fork x y => x.ok l ∧ y.ok l
def Tr.bare : Tr → OT
  | .nil => .nil
  | .step m i _ r => .step m i r.bare
  | .fork x y => .fork x.bare y.bare
theorem picks_spec {l : List Oper} : ∀ {r : OT} {t : Tr}, picks l r = some t → t.ok l ∧ t.bare = r
  | .nil, t, h => by cases h; exact ⟨trivial, rfl⟩
  | .step m i r, t, h => by
    simp only [picks] at h
    split at h
    · rename_i o t' ho ht
      cases h
      obtain ⟨h1, h2⟩ := picks_spec ht
      exact ⟨⟨by rw [nthO_eq]; exact ho, h1⟩, by simp [Tr.bare, h2]⟩
    · cases h
  | .fork x y, t, h => by
    simp only [picks] at h
    split at h
    · rename_i a b ha hb
      cases h
      obtain ⟨h1, h2⟩ := picks_spec ha
      obtain ⟨h3, h4⟩ := picks_spec hb
      exact ⟨⟨h1, h3⟩, by simp [Tr.bare, h2, h4]⟩
    · cases h
def OT.heads : OT → List Nat
  | .nil => []
  | .step _ i _ => [i]
  | .fork x y => x.heads ++ y.heads
def OT.depth : OT → Nat
  | .nil => 0
  | .step _ _ r => r.depth + 1
  | .fork x y => max x.depth y.depth
/-- every order that may come is looked at; inF: this is one arm of a fork -/
def ordOk (e : Nat) (ops : Array Oper) : Bool → Array Bool → OT → Bool
  | false, L, .nil => (Region.ready .any ops L).isEmpty
  | true, _, .nil => false
  | inF, L, .step m i r => (match m with
      | 0 => !inF && (Region.ready .any ops L).contains i && Region.free .any ops L i && !(i == e)
      | 1 => !inF && (Region.ready .any ops L).contains i && Region.free .any ops L i && !(i == e) && (decide (ops.size ≤ e) || waitsT ops ops.size e i)
      | 2 => (inF || decide (Region.ready .any ops L = [i])) && !(i == e)
      | _ => (inF || decide (Region.ready .any ops L = [i])) && ((L.setIfInBounds i true).getD e false)) && ordOk e ops false (L.setIfInBounds i true) r
  | inF, L, .fork x y => (inF || (!(Region.ready .any ops L).isEmpty && (Region.ready .any ops L).all fun j => (x.heads ++ y.heads).contains j)) && ordOk e ops true L x && ordOk e ops true L y
def flagsOk (e : Nat) : Array Bool → OT → Bool
  | _, .nil => true
  | L, .step m i r => (match m with
      | 0 => !(i == e)
      | 1 => !(i == e)
      | 2 => !(i == e)
      | _ => (L.setIfInBounds i true).getD e false) && flagsOk e (L.setIfInBounds i true) r
  | L, .fork x y => flagsOk e L x && flagsOk e L y
theorem flags_of_ord {e : Nat} {ops : Array Oper} : ∀ {t : OT} {b : Bool} {L : Array Bool}, ordOk e ops b L t = true → flagsOk e L t = true
  | .nil, _, _, _ => rfl
  | .step m i r, b, L, h => by
    unfold ordOk at h
    match m with
    | 0 =>
      simp only [Bool.and_eq_true] at h
      simp only [flagsOk, Bool.and_eq_true]
      exact ⟨h.1.2, flags_of_ord h.2⟩
    | 1 =>
      simp only [Bool.and_eq_true] at h
      simp only [flagsOk, Bool.and_eq_true]
      exact ⟨h.1.1.2, flags_of_ord h.2⟩
    | 2 =>
      simp only [Bool.and_eq_true] at h
      simp only [flagsOk, Bool.and_eq_true]
      exact ⟨h.1.2, flags_of_ord h.2⟩
    | m + 3 =>
      simp only [Bool.and_eq_true] at h
      simp only [flagsOk, Bool.and_eq_true]
      exact ⟨h.1.2, flags_of_ord h.2⟩
  | .fork x y, b, L, h => by
    unfold ordOk at h
    simp only [Bool.and_eq_true] at h
    simp only [flagsOk, Bool.and_eq_true]
    exact ⟨flags_of_ord h.1.2, flags_of_ord h.2⟩
/-- what the tree of orders says of a walk -/
def semD (P : Program) (ops : Array Oper) (Q : Exit → Act → World → Prop) (e : Nat) (B F : World → Prop) : Tr → Array Bool → Act → World → Prop
  | .nil, _, a, w => Q .normal a w
  | .step m i o r, L, a, w => if m ≤ 1 then ∃ v, YieldsIf P ops (fun w => if m = 0 then B w else F w) o v a ∧ semD P ops Q e B F r (L.setIfInBounds i true) (a.put o.dst v) w
      else wpOp P ops Q i (fun a' w' => (B w' ∧ ((L.setIfInBounds i true).getD e false = false → F w')) ∧ semD P ops Q e B F r (L.setIfInBounds i true) a' w') a w
  | .fork x y, L, a, w => semD P ops Q e B F x L a w ∧ semD P ops Q e B F y L a w
section
variable {P : Program} {ops : Array Oper} {Q : Exit → Act → World → Prop} {e : Nat} {B F : World → Prop}
theorem any_of_sem (hsel : Region.noSelect ops = true) (hQ : ∀ c a (dst : Option Tmp) v w, Q (.panic c) (a.put dst v) w → Q (.panic c) a w) : ∀ (t : Tr) (b : Bool) (L : Array Bool) (a : Act) (w : World) (n : Nat), t.ok ops.toList → ordOk e ops b L t.bare = true → t.bare.depth ≤ n → L.size = ops.size → closedL ops L → B w → (L.getD e false = false → F w) → semD P ops Q e B F t L a w →
    (b = false → wpAnyG P ops Q e B F n L a w) ∧ (b = true → 0 < n ∧ ∀ j ∈ t.bare.heads, j ∈ Region.ready .any ops L → wpOp P ops Q j (fun a' w' => (B w' ∧ ((L.setIfInBounds j true).getD e false = false → F w')) ∧ wpAnyG P ops Q e B F (n - 1) (L.setIfInBounds j true) a' w') a w) := by
  intro t
  induction t with
  | nil =>
    intro b L a w n _ hord _ _ _ _ _ hs
    cases b with
    | true => simp [Tr.bare, ordOk] at hord
    | false =>
      have hr : Region.ready .any ops L = [] := by simpa [Tr.bare, ordOk] using hord
      refine ⟨fun _ => ?_, fun h => by cases h⟩
      cases n with
      | zero => exact ⟨hr, hs⟩
      | succ n => exact ⟨fun _ => hs, fun i hi => by rw [hr] at hi; cases hi⟩
  | step m i o r ih =>
    intro b L a w n hok hord hd hz hc hB hF hs
    obtain ⟨hok1, hok2⟩ := hok
    have hi : ops[i]? = some o := by simpa using hok1
    simp only [Tr.bare, OT.depth] at hd
    obtain ⟨n, rfl⟩ : ∃ k, n = k + 1 := ⟨n - 1, by omega⟩
    have hz' : (L.setIfInBounds i true).size = ops.size := by simpa using hz
    by_cases hm : m ≤ 1
    · have key : b = false ∧ (Region.ready .any ops L).contains i = true ∧ Region.free .any ops L i = true ∧ i ≠ e ∧ (m = 1 → ops.size ≤ e ∨ waitsT ops ops.size e i = true) ∧ ordOk e ops false (L.setIfInBounds i true) r.bare = true := by
        have : m = 0 ∨ m = 1 := by omega
        rcases this with rfl | rfl
        · simp only [Tr.bare, ordOk, Bool.and_eq_true, Bool.not_eq_true', beq_eq_false_iff_ne] at hord
          exact ⟨hord.1.1.1.1, hord.1.1.1.2, hord.1.1.2, hord.1.2, by simp, hord.2⟩
        · simp only [Tr.bare, ordOk, Bool.and_eq_true, Bool.not_eq_true', beq_eq_false_iff_ne, Bool.or_eq_true, decide_eq_true_eq] at hord
          exact ⟨hord.1.1.1.1.1, hord.1.1.1.1.2, hord.1.1.1.2, hord.1.1.2, fun _ => hord.1.2, hord.2⟩
      obtain ⟨rfl, k1, k2, k3, k4, k5⟩ := key
      refine ⟨fun _ => ?_, fun h => by cases h⟩
      simp only [semD, if_pos hm] at hs
      obtain ⟨v, hy, hs⟩ := hs
      have hr : i ∈ Region.ready .any ops L := by simpa using k1
      refine wpAnyG_first hi hsel k3 (fun w => if m = 0 then B w else F w) (fun L' w' hz' hc' hL' hB' hF' => ?_) (fun c a w h => hQ c _ _ _ w h) n L a w hz hc hB hF (Region.free_spec hi k2) hr hy
        ((ih false _ _ w n hok2 k5 (by omega) hz' (hc.set hr) hB (fun h => hF (by rwa [getD_set_ne false k3] at h)) hs).1 rfl)
      by_cases hm0 : m = 0
      · rw [if_pos hm0]; exact hB'
      · rw [if_neg hm0]
        have hm1 : m = 1 := by omega
        refine hF' ?_
        cases he : L'.getD e false with
        | false => rfl
        | true =>
          rcases k4 hm1 with h1 | h1
          · have hn : L'[e]? = Option.none := Array.getElem?_eq_none (by omega)
            simp [hn] at he
          · have := waitsT_listed hc' _ _ h1 he
            rw [hL'] at this; cases this
    · have key : (b = true ∨ Region.ready .any ops L = [i]) ∧ ordOk e ops false (L.setIfInBounds i true) r.bare = true := by
        match m, hm with
        | 2, _ =>
          simp only [Tr.bare, ordOk, Bool.and_eq_true, Bool.or_eq_true, decide_eq_true_eq] at hord
          exact ⟨hord.1.1, hord.2⟩
        | m + 3, _ =>
          simp only [Tr.bare, ordOk, Bool.and_eq_true, Bool.or_eq_true, decide_eq_true_eq] at hord
          exact ⟨hord.1.1, hord.2⟩
      obtain ⟨k1, k2⟩ := key
      simp only [semD, if_neg hm] at hs
      have step : i ∈ Region.ready .any ops L → wpOp P ops Q i (fun a' w' => (B w' ∧ ((L.setIfInBounds i true).getD e false = false → F w')) ∧ wpAnyG P ops Q e B F n (L.setIfInBounds i true) a' w') a w := fun hr =>
        wpOp_mono (fun a' w' ⟨⟨hB', hF'⟩, hs'⟩ => ⟨⟨hB', hF'⟩, (ih false _ a' w' n hok2 k2 (by omega) hz' (hc.set hr) hB' hF' hs').1 rfl⟩) hs
      refine ⟨fun hb => ?_, fun hb => ⟨by omega, fun j hj hr => ?_⟩⟩
      · have hr1 : Region.ready .any ops L = [i] := k1.resolve_left (by rw [hb]; decide)
        exact wpAnyG_alone hr1 (step (by rw [hr1]; simp))
      · obtain rfl : j = i := by simpa [Tr.bare, OT.heads] using hj
        exact step hr
  | fork x y ihx ihy =>
    intro b L a w n hok hord hd hz hc hB hF hs
    simp only [Tr.bare, ordOk, Bool.and_eq_true, Bool.or_eq_true] at hord
    simp only [Tr.bare, OT.depth] at hd
    have hx := ihx true L a w n hok.1 hord.1.2 (by omega) hz hc hB hF hs.1
    have hy := ihy true L a w n hok.2 hord.2 (by omega) hz hc hB hF hs.2
    have h1 := hx.2 rfl
    have h2 := hy.2 rfl
    have all : ∀ j ∈ x.bare.heads ++ y.bare.heads, j ∈ Region.ready .any ops L → wpOp P ops Q j (fun a' w' => (B w' ∧ ((L.setIfInBounds j true).getD e false = false → F w')) ∧ wpAnyG P ops Q e B F (n - 1) (L.setIfInBounds j true) a' w') a w := fun j hj hr => by
      rcases List.mem_append.1 hj with hj | hj
      · exact h1.2 j hj hr
      · exact h2.2 j hj hr
    refine ⟨fun hb => ?_, fun _ => ⟨h1.1, all⟩⟩
    rcases hord.1.1 with h | h
    · rw [hb] at h; cases h
    · obtain ⟨k, rfl⟩ : ∃ k, n = k + 1 := ⟨n - 1, by omega⟩
      simp only [Bool.not_eq_true', List.isEmpty_eq_false_iff, List.all_eq_true] at h
      exact ⟨fun h0 => absurd h0 h.1, fun i hi => all i (by simpa using h.2 i hi) hi⟩
end

structure TD (P : Program) (C : Ctx) (l : List Oper) (Q : Exit → Act → World → Prop) (e : Nat) (S0 : List Ent) (t : Tr) (E : Slots) (S : List Ent) : Prop where
  run : ∀ (L : Array Bool) a w, t.ok l → flagsOk e L t.bare = true → Env C.n a E → Mem C w S → (L.getD e false = false → Mem C w S0) → semD P l.toArray Q e (fun w => Mem C w []) (fun w => Mem C w S0) t L a w

section
variable {P : Program} {C : Ctx} {Q : Exit → Act → World → Prop} {e : Nat} {S0 S : List Ent} {E : Slots} {l : List Oper} {t : Tr}
variable {d ty i : Nat} {ps : String} {af : Array Edge} {op : Op} {v : Value}
/-- where a panic would go, the frame is not looked at -/
def Blind (Q : Exit → Act → World → Prop) : Prop := ∀ c a (dst : Option Tmp) v w, Q (.panic c) (a.put dst v) w → Q (.panic c) a w
theorem Mem.none {w : World} (h : Mem C w S) : Mem C w [] := h.sub (List.nil_sublist _)
/-- what is held throughout is S0 -/
theorem T_drawS {id : Nat} (S0 : List Ent) (e : Nat) (order : OT) {t : Tr} (hS : S0.Sublist S) (hm : P.follows .mixedOrders = true) (hp : picks l order = some t)
    (hB : (Region.noSelect l.toArray && Nat.ble order.depth l.length && ordOk e l.toArray false (Array.replicate l.length false) order) = true) (hb : Blind Q) (h : TD P C l Q e S0 t E S) : T P C (.region id l.toArray true) Q E S := by
  refine ⟨fun a w ha hw => ?_⟩
  simp only [Bool.and_eq_true] at hB
  obtain ⟨⟨hsel, hlen⟩, hord⟩ := hB
  have hlen' := Nat.le_of_ble_eq_true hlen
  obtain ⟨h1, h2⟩ := picks_spec hp
  refine wp_region_any hm ?_
  have hF : (Array.replicate l.length false).getD e false = false → Mem C w.drew S0 := fun _ => hw.drew.sub hS
  have := (any_of_sem hsel hb t false (Array.replicate l.length false) a w.drew l.length (by simpa using h1) (by rw [h2]; exact hord) (by rw [h2]; exact hlen') (by simp) (fun j oj _ hl => by
      exfalso
      rcases Nat.lt_or_ge j l.length with h | h
      · simp [h] at hl
      · simp [h] at hl) hw.drew.none hF (h.run _ a w.drew h1 (by rw [h2]; exact flags_of_ord hord) ha hw.drew hF)).1 rfl
  have := wpAny_of_G _ _ _ _ this
  simpa using this
theorem T_draw {id : Nat} (e : Nat) (order : OT) {t : Tr} (hm : P.follows .mixedOrders = true) (hp : picks l order = some t)
    (hB : (Region.noSelect l.toArray && Nat.ble order.depth l.length && ordOk e l.toArray false (Array.replicate l.length false) order) = true) (hb : Blind Q) (h : TD P C l Q e S t E S) : T P C (.region id l.toArray true) Q E S :=
  T_drawS S e order (List.Sublist.refl _) hm hp hB hb h
theorem TD_nil (h : At C (Q .normal) E S) : TD P C l Q e S0 .nil E S :=
  ⟨fun L a w _ _ ha hw _ => h.run a w ha hw⟩
theorem TD_fork {x y : Tr} (hx : TD P C l Q e S0 x E S) (hy : TD P C l Q e S0 y E S) : TD P C l Q e S0 (.fork x y) E S :=
  ⟨fun L a w hok hfl ha hw hF => by
    simp only [Tr.bare, flagsOk, Bool.and_eq_true] at hfl
    exact ⟨hx.run L a w hok.1 hfl.1 ha hw hF, hy.run L a w hok.2 hfl.2 ha hw hF⟩⟩
theorem TD_take {m : Nat} {o : Oper} (hmode : m = 0 ∨ m = 1) {E' : Slots}
    (hy : ∀ a, Env C.n a E → YieldsIf P l.toArray (fun w => if m = 0 then Mem C w [] else Mem C w S0) o v a ∧ Env C.n (a.put o.dst v) E') (h : TD P C l Q e S0 t E' S) : TD P C l Q e S0 (.step m i o t) E S := by
  refine ⟨fun L a w hok hfl ha hw hF => ?_⟩
  obtain ⟨hy1, hy2⟩ := hy a ha
  have key : i ≠ e ∧ flagsOk e (L.setIfInBounds i true) t.bare = true := by
    rcases hmode with rfl | rfl
    · simp only [Tr.bare, flagsOk, Bool.and_eq_true, Bool.not_eq_true', beq_eq_false_iff_ne] at hfl
      exact hfl
    · simp only [Tr.bare, flagsOk, Bool.and_eq_true, Bool.not_eq_true', beq_eq_false_iff_ne] at hfl
      exact hfl
  simp only [semD]
  rw [if_pos (by omega)]
  exact ⟨v, hy1, h.run _ _ w hok.2 key.2 hy2 hw (fun h => hF (by rwa [getD_set_ne false key.1] at h))⟩
theorem yIf {G : World → Prop} {o : Oper} {a : Act} {dst : Option Tmp} {g : Option (Nat × Bool)} (ho : o = ⟨dst, op, ty, ps, af, g⟩) (hw : Region.wanted o (yielded l.toArray a.tmps) = true)
    (hr : ∀ w, G w → (execOp a.eval ⟨dst, op, ty, ps, af, g⟩).run P w = .ok (.value v) w) : YieldsIf P l.toArray G o v a := .inl ⟨hw, fun w h => by rw [ho]; exact hr w h⟩
/-! what is taken first -/
theorem TD_q0 (hq : QS P C E [] op ty v) (hd : Nat.ble (d + 1) C.n = true) (h : TD P C l Q e S0 t ((d, v) :: E) S) : TD P C l Q e S0 (.step 0 i ⟨some d, op, ty, ps, af, none⟩ t) E S :=
  TD_take (v := v) (.inl rfl) (fun a ha => ⟨yIf rfl (by simp [Region.wanted]) (fun w hw => hq _ _ _ _ a w ha (by simpa using hw)), ha.put hd v⟩) h
theorem TD_q1 (hq : QS P C E S0 op ty v) (hd : Nat.ble (d + 1) C.n = true) (h : TD P C l Q e S0 t ((d, v) :: E) S) : TD P C l Q e S0 (.step 1 i ⟨some d, op, ty, ps, af, none⟩ t) E S :=
  TD_take (v := v) (.inr rfl) (fun a ha => ⟨yIf rfl (by simp [Region.wanted]) (fun w hw => hq _ _ _ _ a w ha (by simpa using hw)), ha.put hd v⟩) h
section
variable {j k : Nat} {b want : Bool}
theorem wanted_yes {a : Act} {o : Oper} (ha : Env C.n a E) (ho : o.guard = some (j, want)) (hj : dstAt l j = some k) (hk : look k E = some (.bool b)) (hb : b = want) : Region.wanted o (yielded l.toArray a.tmps) = true := by
  simp only [Region.wanted, ho, yielded_at ha hj hk, hb]; simp
theorem wanted_no {a : Act} {o : Oper} (ha : Env C.n a E) (ho : o.guard = some (j, want)) (hj : dstAt l j = some k) (hk : look k E = some (.bool b)) (hb : b = !want) : Region.wanted o (yielded l.toArray a.tmps) = false := by
  simp only [Region.wanted, ho, yielded_at ha hj hk, hb]; cases want <;> rfl
theorem wanted_undef {a : Act} {o : Oper} (ha : Env C.n a E) (ho : o.guard = some (j, want)) (hj : dstAt l j = some k) (hk : look k E = some undef) : Region.wanted o (yielded l.toArray a.tmps) = false := by
  simp only [Region.wanted, ho, yielded_undef ha hj hk]; rfl
theorem TD_q0y (hj : dstAt l j = some k) (hk : look k E = some (.bool b)) (hb : b = want) (hq : QS P C E [] op ty v) (hd : Nat.ble (d + 1) C.n = true) (h : TD P C l Q e S0 t ((d, v) :: E) S) : TD P C l Q e S0 (.step 0 i ⟨some d, op, ty, ps, af, some (j, want)⟩ t) E S :=
  TD_take (v := v) (.inl rfl) (fun a ha => ⟨yIf rfl (wanted_yes ha rfl hj hk hb) (fun w hw => hq _ _ _ _ a w ha (by simpa using hw)), ha.put hd v⟩) h
theorem TD_q1y (hj : dstAt l j = some k) (hk : look k E = some (.bool b)) (hb : b = want) (hq : QS P C E S0 op ty v) (hd : Nat.ble (d + 1) C.n = true) (h : TD P C l Q e S0 t ((d, v) :: E) S) : TD P C l Q e S0 (.step 1 i ⟨some d, op, ty, ps, af, some (j, want)⟩ t) E S :=
  TD_take (v := v) (.inr rfl) (fun a ha => ⟨yIf rfl (wanted_yes ha rfl hj hk hb) (fun w hw => hq _ _ _ _ a w ha (by simpa using hw)), ha.put hd v⟩) h
theorem TD_no {m : Nat} (hm : Nat.ble m 1 = true) (hj : dstAt l j = some k) (hk : look k E = some (.bool b)) (hb : b = !want) (hd : Nat.ble (d + 1) C.n = true) (h : TD P C l Q e S0 t ((d, undef) :: E) S) : TD P C l Q e S0 (.step m i ⟨some d, op, ty, ps, af, some (j, want)⟩ t) E S :=
  TD_take (v := undef) (by have := Nat.le_of_ble_eq_true hm; omega) (fun a ha => ⟨.inr ⟨wanted_no ha rfl hj hk hb, rfl⟩, ha.put hd undef⟩) h
theorem TD_noU {m : Nat} (hm : Nat.ble m 1 = true) (hj : dstAt l j = some k) (hk : look k E = some undef) (hd : Nat.ble (d + 1) C.n = true) (h : TD P C l Q e S0 t ((d, undef) :: E) S) : TD P C l Q e S0 (.step m i ⟨some d, op, ty, ps, af, some (j, want)⟩ t) E S :=
  TD_take (v := undef) (by have := Nat.le_of_ble_eq_true hm; omega) (fun a ha => ⟨.inr ⟨wanted_undef ha rfl hj hk, rfl⟩, ha.put hd undef⟩) h
theorem TD_guard {m : Nat} {dst : Option Tmp} (hj : dstAt l j = some k) (hk : look k E = some (.bool b))
    (h1 : b = true → TD P C l Q e S0 (.step m i ⟨dst, op, ty, ps, af, some (j, want)⟩ t) ((k, .bool true) :: E) S)
    (h0 : b = false → TD P C l Q e S0 (.step m i ⟨dst, op, ty, ps, af, some (j, want)⟩ t) ((k, .bool false) :: E) S) : TD P C l Q e S0 (.step m i ⟨dst, op, ty, ps, af, some (j, want)⟩ t) E S := by
  refine ⟨fun L a w hok hfl ha hw hF => ?_⟩
  cases hbb : b
  · exact (h0 hbb).run L a w hok hfl (ha.same hk (by rw [hbb])) hw hF
  · exact (h1 hbb).run L a w hok hfl (ha.same hk (by rw [hbb])) hw hF
end
/-! what acts, alone -/
theorem TD_act {m : Nat} {o : Oper} (hm : 2 ≤ m)
    (hy : ∀ a w (K : Act → World → Prop), Env C.n a E → Mem C w S → (∀ a' w' E' S', TD P C l Q e S0 t E' S' → Env C.n a' E' → Mem C w' S' → (m = 2 → Mem C w S0 → Mem C w' S0) → K a' w') →
      if Region.wanted o (yielded l.toArray a.tmps) then o.wp P a w K Q ∨ (o.asks P a w ∧ LetsOut Q) else K (a.put o.dst undef) w) : TD P C l Q e S0 (.step m i o t) E S := by
  refine ⟨fun L a w hok hfl ha hw hF => ?_⟩
  have hi : l.toArray[i]? = some o := by simpa using hok.1
  have key : (m = 2 → i ≠ e) ∧ (m ≠ 2 → (L.setIfInBounds i true).getD e false = true) ∧ flagsOk e (L.setIfInBounds i true) t.bare = true := by
    match m, hm with
    | 2, _ =>
      simp only [Tr.bare, flagsOk, Bool.and_eq_true, Bool.not_eq_true', beq_eq_false_iff_ne] at hfl
      exact ⟨fun _ => hfl.1, fun h => absurd rfl h, hfl.2⟩
    | m + 3, _ =>
      simp only [Tr.bare, flagsOk, Bool.and_eq_true] at hfl
      exact ⟨fun h => absurd h (by omega), fun _ => hfl.1, hfl.2⟩
  obtain ⟨k2, k3, k4⟩ := key
  simp only [semD]
  rw [if_neg (by omega)]
  unfold wpOp
  rw [hi]
  refine hy a w _ ha hw (fun a' w' E' S' htd ha' hw' hkeep => ?_)
  have hF' : (L.setIfInBounds i true).getD e false = false → Mem C w' S0 := fun h => by
    by_cases h2 : m = 2
    · exact hkeep h2 (hF (by rwa [getD_set_ne false (k2 h2)] at h))
    · rw [k3 h2] at h; cases h
  exact ⟨⟨hw'.none, hF'⟩, htd.run _ a' w' hok.2 k4 ha' hw' hF'⟩
theorem TD_e2 {o : Oper} {N : Slots → List Ent → Prop} (he : ES P C E S o N) (hg : o.guard = none) (h : ∀ E' S', N E' S' → S0.Sublist S' ∧ TD P C l Q e S0 t E' S') : TD P C l Q e S0 (.step 2 i o t) E S :=
  TD_act (by omega) fun a w K ha hw hK => by
    rw [if_pos (by simp [Region.wanted, hg])]
    exact .inl (he a w K Q ha hw fun a' w' E' S' hN ha' hw' => hK a' w' E' S' (h E' S' hN).2 ha' hw' (fun _ _ => hw'.sub (h E' S' hN).1))
theorem TD_e3 {o : Oper} {N : Slots → List Ent → Prop} (he : ES P C E S o N) (hg : o.guard = none) (h : ∀ E' S', N E' S' → TD P C l Q e S0 t E' S') : TD P C l Q e S0 (.step 3 i o t) E S :=
  TD_act (by omega) fun a w K ha hw hK => by
    rw [if_pos (by simp [Region.wanted, hg])]
    exact .inl (he a w K Q ha hw fun a' w' E' S' hN ha' hw' => hK a' w' E' S' (h E' S' hN) ha' hw' (fun h => absurd h (by omega)))
theorem TD_q2 (hq : QS P C E S op ty v) (hd : Nat.ble (d + 1) C.n = true) (h : TD P C l Q e S0 t ((d, v) :: E) S) : TD P C l Q e S0 (.step 2 i ⟨some d, op, ty, ps, af, none⟩ t) E S :=
  TD_act (by omega) fun a w K ha hw hK => by
    rw [if_pos (by simp [Region.wanted])]
    refine .inl ?_
    unfold Oper.wp
    rw [hq _ _ _ _ a w ha hw]
    exact hK _ _ _ _ h (ha.put hd v) hw (fun _ h => h)
theorem TD_q3 (hq : QS P C E S op ty v) (hd : Nat.ble (d + 1) C.n = true) (h : TD P C l Q e S0 t ((d, v) :: E) S) : TD P C l Q e S0 (.step 3 i ⟨some d, op, ty, ps, af, none⟩ t) E S :=
  TD_e3 (ES_core (fun u S' => u = v ∧ S' = S) (fun a w ha hw => ⟨v, w, S, hq _ _ _ _ a w ha hw, hw, rfl, rfl⟩) hd) rfl (by rintro _ _ ⟨_, ⟨rfl, rfl⟩, rfl⟩; exact h)
section
variable {j k : Nat} {b want : Bool} {m : Nat}
theorem TD_e2y {dst : Option Tmp} {N : Slots → List Ent → Prop} (hj : dstAt l j = some k) (hk : look k E = some (.bool b)) (hb : b = want) (he : ES P C E S ⟨dst, op, ty, ps, af, some (j, want)⟩ N)
    (h : ∀ E' S', N E' S' → S0.Sublist S' ∧ TD P C l Q e S0 t E' S') : TD P C l Q e S0 (.step 2 i ⟨dst, op, ty, ps, af, some (j, want)⟩ t) E S :=
  TD_act (by omega) fun a w K ha hw hK => by
    rw [if_pos (wanted_yes ha rfl hj hk hb)]
    exact .inl (he a w K Q ha hw fun a' w' E' S' hN ha' hw' => hK a' w' E' S' (h E' S' hN).2 ha' hw' (fun _ _ => hw'.sub (h E' S' hN).1))
theorem TD_e3y {dst : Option Tmp} {N : Slots → List Ent → Prop} (hj : dstAt l j = some k) (hk : look k E = some (.bool b)) (hb : b = want) (he : ES P C E S ⟨dst, op, ty, ps, af, some (j, want)⟩ N)
    (h : ∀ E' S', N E' S' → TD P C l Q e S0 t E' S') : TD P C l Q e S0 (.step 3 i ⟨dst, op, ty, ps, af, some (j, want)⟩ t) E S :=
  TD_act (by omega) fun a w K ha hw hK => by
    rw [if_pos (wanted_yes ha rfl hj hk hb)]
    exact .inl (he a w K Q ha hw fun a' w' E' S' hN ha' hw' => hK a' w' E' S' (h E' S' hN) ha' hw' (fun h => absurd h (by omega)))
theorem TD_eno (hm : Nat.ble 2 m = true) (hj : dstAt l j = some k) (hk : look k E = some (.bool b)) (hb : b = !want) (hd : Nat.ble (d + 1) C.n = true) (h : TD P C l Q e S0 t ((d, undef) :: E) S) : TD P C l Q e S0 (.step m i ⟨some d, op, ty, ps, af, some (j, want)⟩ t) E S :=
  TD_act (Nat.le_of_ble_eq_true hm) fun a w K ha hw hK => by
    rw [if_neg (by rw [wanted_no ha rfl hj hk hb]; exact Bool.false_ne_true)]
    exact hK _ _ _ _ h (ha.put hd undef) hw (fun _ h => h)
theorem TD_enoU (hm : Nat.ble 2 m = true) (hj : dstAt l j = some k) (hk : look k E = some undef) (hd : Nat.ble (d + 1) C.n = true) (h : TD P C l Q e S0 t ((d, undef) :: E) S) : TD P C l Q e S0 (.step m i ⟨some d, op, ty, ps, af, some (j, want)⟩ t) E S :=
  TD_act (Nat.le_of_ble_eq_true hm) fun a w K ha hw hK => by
    rw [if_neg (by rw [wanted_undef ha rfl hj hk]; exact Bool.false_ne_true)]
    exact hK _ _ _ _ h (ha.put hd undef) hw (fun _ h => h)
end
/-! Blind posts -/
theorem Blind.seq {K : Act → World → Prop} (h : Blind Q) : Blind (Exit.then K Q) := h
theorem Blind.block {id : Nat} (h : Blind Q) : Blind (Exit.inBlock id Q) := h
theorem Blind.body {fn : Func} {R : Ending → World → Prop} : Blind (bodyPost P fn R) := fun c a dst v w h => by
  cases dst <;> exact h
end
end Go.Proofs.YthecmfhoaneejaaDoor

namespace Go.Proofs.YthecmfhoaneejaaDoor
open Go.RowKit

instance : OneCell Tryd.prog 3 := ⟨Tryd.isAgg3, Tryd.sizeOf3⟩
instance : IntOf Tryd.prog 3 .i64 := ⟨Tryd.underlying3⟩
instance : ZeroOf Tryd.prog 3 (Value.int IntKind.i64 0) := ⟨Tryd.zeroValue3⟩
instance : InfoOf Tryd.prog 3 (Value.int IntKind.i64 0) 1 8 := ⟨by kernel_rfl, by rfl, by decide⟩
instance : IntOf Tryd.prog 5 .u8 := ⟨Tryd.underlying5⟩
instance : OneCell Tryd.prog 9 := ⟨Tryd.isAgg9, Tryd.sizeOf9⟩
instance : ZeroOf Tryd.prog 9 (Value.string { data := #[] }) := ⟨Tryd.zeroValue9⟩
instance : OneCell Tryd.prog 22 := ⟨Tryd.isAgg22, Tryd.sizeOf22⟩
instance : SliceOf Tryd.prog 22 3 1 := ⟨Tryd.underlying22, Tryd.sizeOf3⟩
instance : SliceOf Tryd.prog 23 36 4 := ⟨Tryd.underlying23, Tryd.sizeOf36⟩
instance : OneCell Tryd.prog 29 := ⟨Tryd.isAgg29, Tryd.sizeOf29⟩
instance : SliceOf Tryd.prog 29 58 7 := ⟨Tryd.underlying29, Tryd.sizeOf58⟩
instance : AggOf Tryd.prog 36 4 := ⟨Tryd.isAgg36, Tryd.sizeOf36⟩
instance : FieldAt Tryd.prog 36 0 0 := fieldAt_of 0 3 Tryd.underlying36 rfl Tryd.sizeOf3 (by decide)
instance : FieldAt Tryd.prog 36 1 1 := fieldAt_of 1 3 Tryd.underlying36 rfl Tryd.sizeOf3 (by decide)
instance : FieldAt Tryd.prog 36 2 2 := fieldAt_of 2 3 Tryd.underlying36 rfl Tryd.sizeOf3 (by decide)
instance : FieldAt Tryd.prog 36 3 3 := fieldAt_of 3 3 Tryd.underlying36 rfl Tryd.sizeOf3 (by decide)
instance : ZeroOf Tryd.prog 36 (Value.agg #[Value.int IntKind.i64 0, Value.int IntKind.i64 0, Value.int IntKind.i64 0, Value.int IntKind.i64 0]) := ⟨Tryd.zeroValue36⟩
instance : InfoOf Tryd.prog 36 (Value.agg #[Value.int IntKind.i64 0, Value.int IntKind.i64 0, Value.int IntKind.i64 0, Value.int IntKind.i64 0]) 4 32 := ⟨by kernel_rfl, by rfl, by decide⟩
instance : ZeroOf Tryd.prog 41 (Value.agg #[Value.pointer Option.none, Value.slice Option.none 0 0]) := ⟨Tryd.zeroValue41⟩
instance : SliceOf Tryd.prog 46 9 1 := ⟨Tryd.underlying46, Tryd.sizeOf9⟩
instance : AggOf Tryd.prog 58 7 := ⟨Tryd.isAgg58, Tryd.sizeOf58⟩
instance : FieldAt Tryd.prog 58 0 0 := fieldAt_of 0 3 Tryd.underlying58 rfl Tryd.sizeOf3 (by decide)
instance : FieldAt Tryd.prog 58 1 1 := fieldAt_of 1 3 Tryd.underlying58 rfl Tryd.sizeOf3 (by decide)
instance : FieldAt Tryd.prog 58 2 2 := fieldAt_of 2 3 Tryd.underlying58 rfl Tryd.sizeOf3 (by decide)
instance : FieldAt Tryd.prog 58 4 4 := fieldAt_of 4 3 Tryd.underlying58 rfl Tryd.sizeOf3 (by decide)
instance : FieldAt Tryd.prog 58 6 6 := fieldAt_of 6 3 Tryd.underlying58 rfl Tryd.sizeOf3 (by decide)
instance : ZeroOf Tryd.prog 58 (Value.agg #[Value.int IntKind.i64 0, Value.int IntKind.i64 0, Value.int IntKind.i64 0, Value.int IntKind.i64 0, Value.int IntKind.i64 0, Value.int IntKind.i64 0, Value.int IntKind.i64 0]) := ⟨Tryd.zeroValue58⟩
instance : InfoOf Tryd.prog 58 (Value.agg #[Value.int IntKind.i64 0, Value.int IntKind.i64 0, Value.int IntKind.i64 0, Value.int IntKind.i64 0, Value.int IntKind.i64 0, Value.int IntKind.i64 0, Value.int IntKind.i64 0]) 7 56 := ⟨by kernel_rfl, by rfl, by decide⟩
instance : ArrayOf Tryd.prog 67 8 3 1 := ⟨Tryd.underlying67, Tryd.sizeOf3⟩
instance : FieldAt Tryd.prog 69 0 0 := fieldAt_of 0 22 Tryd.underlying69 rfl Tryd.sizeOf22 (by decide)
instance : FieldAt Tryd.prog 69 1 1 := fieldAt_of 1 29 Tryd.underlying69 rfl Tryd.sizeOf29 (by decide)
instance : FieldAt Tryd.prog 69 2 2 := fieldAt_of 2 67 Tryd.underlying69 rfl Tryd.sizeOf67 (by decide)
instance : BuiltOf Tryd.prog 36 [(0, 1), (1, 1), (2, 1), (3, 1)] [Value.int IntKind.i64 0, Value.int IntKind.i64 0, Value.int IntKind.i64 0, Value.int IntKind.i64 0] := ⟨by kernel_rfl⟩
instance : BuiltOf Tryd.prog 58 [(0, 1), (1, 1), (2, 1), (3, 1), (4, 1), (5, 1), (6, 1)] [Value.int IntKind.i64 0, Value.int IntKind.i64 0, Value.int IntKind.i64 0, Value.int IntKind.i64 0, Value.int IntKind.i64 0, Value.int IntKind.i64 0, Value.int IntKind.i64 0] := ⟨by kernel_rfl⟩
instance : IsFn Tryd.prog 4 := ⟨Tryd.call4⟩
instance : IsFn Tryd.prog 5 := ⟨Tryd.call5⟩
instance : IsFn Tryd.prog 6 := ⟨Tryd.call6⟩
instance : IsFn Tryd.prog 7 := ⟨Tryd.call7⟩
instance : IsFn Tryd.prog 8 := ⟨Tryd.call8⟩
instance : IsFn Tryd.prog 9 := ⟨Tryd.call9⟩
instance : IsFn Tryd.prog 10 := ⟨Tryd.call10⟩
instance : IsFn Tryd.prog 11 := ⟨Tryd.call11⟩
instance : IsFn Tryd.prog 12 := ⟨Tryd.call12⟩
instance : IsFn Tryd.prog 13 := ⟨Tryd.call13⟩
instance : IsFn Tryd.prog 14 := ⟨Tryd.call14⟩
instance : IsFn Tryd.prog 15 := ⟨Tryd.call15⟩
instance : IsFn Tryd.prog 16 := ⟨Tryd.call16⟩
instance : IsFn Tryd.prog 17 := ⟨Tryd.call17⟩
instance : IsFn Tryd.prog 18 := ⟨Tryd.call18⟩
instance : IsFn Tryd.prog 19 := ⟨Tryd.call19⟩
instance : IsFn Tryd.prog 20 := ⟨Tryd.call20⟩
instance : IsFn Tryd.prog 21 := ⟨Tryd.call21⟩
instance : IsFn Tryd.prog 22 := ⟨Tryd.call22⟩
instance : IsFn Tryd.prog 23 := ⟨Tryd.call23⟩
instance : IsFn Tryd.prog 24 := ⟨Tryd.call24⟩
instance : IsFn Tryd.prog 25 := ⟨Tryd.call25⟩
instance : IsFn Tryd.prog 26 := ⟨Tryd.call26⟩
instance : IsFn Tryd.prog 27 := ⟨Tryd.call27⟩
instance : IsFn Tryd.prog 28 := ⟨Tryd.call28⟩
instance : IsFn Tryd.prog 29 := ⟨Tryd.call29⟩
instance : IsFn Tryd.prog 35 := ⟨Tryd.call35⟩
instance : IsFn Tryd.prog 36 := ⟨Tryd.call36⟩
instance : IsFn Tryd.prog 38 := ⟨Tryd.call38⟩
instance : IsFn Tryd.prog 39 := ⟨Tryd.call39⟩
instance : IsFn Tryd.prog 40 := ⟨Tryd.call40⟩
instance : IsFn Tryd.prog 42 := ⟨Tryd.call42⟩
instance : IsFn Tryd.prog 45 := ⟨Tryd.call45⟩
instance : IsFn Tryd.prog 46 := ⟨Tryd.call46⟩
instance : IsFn Tryd.prog 53 := ⟨Tryd.call53⟩
end Go.Proofs.YthecmfhoaneejaaDoor

namespace Go.Proofs.YthecmfhoaneejaaDoor
open Go.RowKit Go.Lib

/-! words -/
def typeW : List Bs := [[], [114, 101, 103], [113, 117, 101, 117, 101], [115, 116, 97, 99, 107], [115, 101, 116], [116, 105, 99, 107, 101, 116]]
def kindW : List Bs := [[101, 110, 100], [119, 114, 105, 116, 101], [114, 101, 97, 100], [101, 110, 113], [100, 101, 113], [112, 117, 115, 104], [112, 111, 112], [97, 100, 100], [114, 101, 109, 111, 118, 101], [104, 97, 115], [116, 97, 107, 101]]
def thW : Bs := [116, 104, 105, 110, 103, 115]
/-- slices.Index -/
def idxB (ws : List Bs) (w : Bs) : Int := match (List.range ws.length).find? (fun i => decide (ws.getD i [] = w)) with | some i => (i : Int) | none => -1
theorem idxB_cases (ws : List Bs) (w : Bs) : idxB ws w = -1 ∨ ∃ i : Nat, idxB ws w = (i : Int) ∧ i < ws.length ∧ ws.getD i [] = w := by
  unfold idxB
  split
  · rename_i i h
    rw [List.find?_range_eq_some] at h
    exact .inr ⟨i, rfl, List.mem_range.1 h.2.1, of_decide_eq_true h.1⟩
  · exact .inl rfl
theorem idxB_at {ws : List Bs} (hd : ws.Nodup) {i : Nat} (hi : i < ws.length) : idxB ws (ws.getD i []) = (i : Int) := by
  have h : (List.range ws.length).find? (fun j => decide (ws.getD j [] = ws.getD i [])) = some i := by
    refine List.find?_range_eq_some.2 ⟨decide_eq_true rfl, List.mem_range.2 hi, fun j hj => ?_⟩
    have : ¬ ws.getD j [] = ws.getD i [] := fun e => by
      rw [show ws.getD j [] = ws[j] by simp [show j < ws.length by omega], show ws.getD i [] = ws[i] by simp [hi]] at e
      have := (List.getElem_inj hd).1 e
      omega
    rw [decide_eq_false this]; rfl
  unfold idxB
  rw [h]
def tyOf (w : Bs) : Option Int := if 1 ≤ idxB typeW w then some (idxB typeW w) else none
def kdOf (w : Bs) : Option Int := if 0 ≤ idxB kindW w then some (idxB kindW w) else none
theorem tyOf_iff {w : Bs} {t : Int} : tyOf w = some t ↔ 1 ≤ t ∧ t ≤ 5 ∧ typeW.getD t.toNat [] = w := by
  constructor
  · intro h
    unfold tyOf at h
    split at h
    · cases h
      rcases idxB_cases typeW w with e | ⟨i, e, h1, h2⟩
      · omega
      · rw [e]
        have : typeW.length = 6 := rfl
        exact ⟨by omega, by omega, h2⟩
    · cases h
  · intro ⟨h1, h2, h3⟩
    have := idxB_at (ws := typeW) (by decide) (i := t.toNat) (by show _ < 6; omega)
    rw [h3] at this
    unfold tyOf
    rw [this, if_pos (by omega)]; congr 1; omega
theorem kdOf_iff {w : Bs} {t : Int} : kdOf w = some t ↔ 0 ≤ t ∧ t ≤ 10 ∧ kindW.getD t.toNat [] = w := by
  constructor
  · intro h
    unfold kdOf at h
    split at h
    · cases h
      rcases idxB_cases kindW w with e | ⟨i, e, h1, h2⟩
      · omega
      · rw [e]
        have : kindW.length = 11 := rfl
        exact ⟨by omega, by omega, h2⟩
    · cases h
  · intro ⟨h1, h2, h3⟩
    have := idxB_at (ws := kindW) (by decide) (i := t.toNat) (by show _ < 11; omega)
    rw [h3] at this
    unfold kdOf
    rw [this, if_pos (by omega)]; congr 1; omega
theorem typeW_free {t : Nat} (h : t < 6) : (32 : UInt8) ∉ typeW.getD t [] := by
  revert t; decide
theorem kindW_free {t : Nat} (h : t < 11) : (32 : UInt8) ∉ kindW.getD t [] := by
  revert t; decide
/-- all of them, or none -/
def allOf {α β : Type} (f : α → Option β) : List α → Option (List β)
  | [] => some []
  | x :: r => match f x, allOf f r with
    | some y, some t => some (y :: t)
    | _, _ => none
/-! the first line -/
def thingsR (line : Bs) : Option (List Int) :=
  match splitL 32 line with
  | w :: r => if w = thW ∧ 1 ≤ r.length ∧ r.length ≤ 4 then allOf tyOf r else none
  | [] => none
def typesL (line : Bs) : List Int := (splitL 32 line).tail.filterMap tyOf
def firstL (ts : List Int) : Bs := joinL 32 (thW :: ts.map fun t => typeW.getD t.toNat [])
theorem allOf_len {α β : Type} {f : α → Option β} : ∀ {l : List α} {t : List β}, allOf f l = some t → t.length = l.length ∧ l.filterMap f = t
  | [], t, h => by cases h; exact ⟨rfl, rfl⟩
  | x :: r, t, h => by
    rw [allOf] at h
    split at h
    · rename_i y t' e1 e2
      cases h
      obtain ⟨h1, h2⟩ := allOf_len e2
      exact ⟨by simp [h1], by rw [List.filterMap_cons, e1, h2]⟩
    · cases h
theorem allOf_map {ws : List Bs} : ∀ {ts : List Int}, allOf tyOf ws = some ts → ts.map (fun t => typeW.getD t.toNat []) = ws ∧ ∀ t ∈ ts, 1 ≤ t ∧ t ≤ 5 := by
  induction ws with
  | nil => intro ts h; cases h; exact ⟨rfl, by simp⟩
  | cons w ws ih =>
    intro ts h
    rw [allOf] at h
    split at h
    · rename_i y t e1 e2
      cases h
      obtain ⟨h1, h2⟩ := ih e2
      obtain ⟨k1, k2, k3⟩ := tyOf_iff.1 e1
      refine ⟨by rw [List.map_cons, h1, k3], fun q hq => ?_⟩
      rcases List.mem_cons.1 hq with rfl | hq
      · exact ⟨k1, k2⟩
      · exact h2 q hq
    · cases h
theorem allOf_of {ws : List Bs} : ∀ {ts : List Int}, ts.map (fun t => typeW.getD t.toNat []) = ws → (∀ t ∈ ts, 1 ≤ t ∧ t ≤ 5) → allOf tyOf ws = some ts := by
  induction ws with
  | nil => intro ts h _; cases ts with
    | nil => rfl
    | cons => cases h
  | cons w ws ih =>
    intro ts h h2
    cases ts with
    | nil => cases h
    | cons t ts =>
      rw [List.map_cons] at h
      obtain ⟨e1, e2⟩ := List.cons.inj h
      rw [allOf, tyOf_iff.2 ⟨(h2 t List.mem_cons_self).1, (h2 t List.mem_cons_self).2, e1⟩, ih e2 fun q hq => h2 q (List.mem_cons_of_mem _ hq)]
theorem typesL_all (line : Bs) : ∀ t ∈ typesL line, 1 ≤ t ∧ t ≤ 5 := by
  intro t ht
  obtain ⟨w, _, hw⟩ := List.mem_filterMap.1 ht
  have := tyOf_iff.1 hw
  exact ⟨this.1, this.2.1⟩
theorem words_free {ts : List Int} (h : ∀ t ∈ ts, 1 ≤ t ∧ t ≤ 5) : ∀ x ∈ thW :: ts.map (fun t => typeW.getD t.toNat []), (32 : UInt8) ∉ x := by
  intro x hx
  rcases List.mem_cons.1 hx with rfl | hx
  · decide
  · obtain ⟨t, ht, rfl⟩ := List.mem_map.1 hx
    have := h t ht
    exact typeW_free (by omega)
/-- the document's test of the first line -/
theorem thingsDoc (line : Bs) : (if 1 ≤ (typesL line).length ∧ (typesL line).length ≤ 4 ∧ firstL (typesL line) = line then some (typesL line) else none) = thingsR line := by
  have hfr := words_free (typesL_all line)
  by_cases h : 1 ≤ (typesL line).length ∧ (typesL line).length ≤ 4 ∧ firstL (typesL line) = line
  · rw [if_pos h]
    have e : splitL 32 line = thW :: (typesL line).map fun t => typeW.getD t.toNat [] := by
      conv => lhs; rw [← h.2.2]
      exact split_join (by simp) hfr
    unfold thingsR
    rw [e]
    have h1 : 1 ≤ ((typesL line).map fun t => typeW.getD t.toNat []).length := by simpa using h.1
    have h2 : ((typesL line).map fun t => typeW.getD t.toNat []).length ≤ 4 := by simpa using h.2.1
    exact ((if_pos ⟨rfl, h1, h2⟩).trans (allOf_of rfl (typesL_all line))).symm
  · rw [if_neg h]
    symm
    cases hr : thingsR line with
    | none => rfl
    | some ts =>
      exfalso
      apply h
      unfold thingsR at hr
      split at hr
      · rename_i w r e
        split at hr
        · rename_i h2
          obtain ⟨h3, h4⟩ := allOf_len hr
          obtain ⟨h5, h6⟩ := allOf_map hr
          have e2 : typesL line = ts := by unfold typesL; rw [e, List.tail_cons, h4]
          rw [e2]
          refine ⟨by omega, by omega, ?_⟩
          unfold firstL
          rw [h5, ← h2.1, ← e, join_split]
        · cases hr
      · cases hr
/-! the line of an event -/
def bareB (k : Int) : Bool := decide (k = 2) || (decide (k = 4) || (decide (k = 6) || decide (k = 10)))
def evWords (x : Ev) : List Bs := [itoa x.who, itoa x.thing, kindW.getD x.kind.toNat []] ++ if bareB x.kind = true then [] else [itoa x.value]
def lineEv (x : Ev) : Bs := joinL 32 (evWords x)
/-- what the program reads -/
def eventR (line : Bs) : Option Ev :=
  match splitL 32 line with
  | [a, b, k] => match numR a, numR b, kdOf k with
    | some a, some b, some k => if bareB k = true then some ⟨a, b, k, 0⟩ else none
    | _, _, _ => none
  | [a, b, k, v] => match numR a, numR b, kdOf k, numR v with
    | some a, some b, some k, some v => if bareB k = true then none else some ⟨a, b, k, v⟩
    | _, _, _, _ => none
  | _ => none
/-- what the document reads -/
def eventD (line : Bs) : Option Ev :=
  match splitL 32 line with
  | [a, b, k] => match numR a, numR b, kdOf k with
    | some a, some b, some k => if lineEv ⟨a, b, k, 0⟩ = line then some ⟨a, b, k, 0⟩ else none
    | _, _, _ => none
  | [a, b, k, v] => match numR a, numR b, kdOf k, numR v with
    | some a, some b, some k, some v => if lineEv ⟨a, b, k, v⟩ = line then some ⟨a, b, k, v⟩ else none
    | _, _, _, _ => none
  | _ => none
theorem evWords_free {x : Ev} (h : 0 ≤ x.kind ∧ x.kind ≤ 10) : ∀ y ∈ evWords x, (32 : UInt8) ∉ y := by
  intro y hy
  have hi : ∀ n, (32 : UInt8) ∉ itoa n := fun n => itoa_free n (by decide)
  unfold evWords at hy
  rcases List.mem_append.1 hy with hy | hy
  · simp only [List.mem_cons, List.not_mem_nil, or_false] at hy
    rcases hy with rfl | rfl | rfl
    · exact hi _
    · exact hi _
    · exact kindW_free (by omega)
  · split at hy
    · cases hy
    · rw [List.mem_singleton] at hy; subst hy; exact hi _
theorem lineEv_iff {x : Ev} (h : 0 ≤ x.kind ∧ x.kind ≤ 10) {line : Bs} : lineEv x = line ↔ evWords x = splitL 32 line := by
  constructor
  · intro e
    rw [← e]
    exact (split_join (by simp [evWords]) (evWords_free h)).symm
  · intro e
    unfold lineEv
    rw [e, join_split]
theorem eventDoc (line : Bs) : eventD line = eventR line := by
  unfold eventD eventR
  split
  · rename_i a b k e
    split
    · rename_i a' b' k' h1 h2 h3
      have hk := kdOf_iff.1 h3
      have hi := lineEv_iff (x := ⟨a', b', k', 0⟩) ⟨hk.1, hk.2.1⟩ (line := line)
      rw [e] at hi
      unfold evWords at hi
      simp only [(numR_iff.1 h1).1, (numR_iff.1 h2).1, hk.2.2] at hi
      by_cases hb : bareB k' = true
      · rw [if_pos hb] at hi
        rw [if_pos hb, if_pos (hi.2 rfl)]
      · rw [if_neg hb] at hi
        rw [if_neg hb, if_neg]
        intro hh
        have := congrArg List.length (hi.1 hh)
        simp at this
    · rfl
  · rename_i a b k v e
    split
    · rename_i a' b' k' v' h1 h2 h3 h4
      have hk := kdOf_iff.1 h3
      have hi := lineEv_iff (x := ⟨a', b', k', v'⟩) ⟨hk.1, hk.2.1⟩ (line := line)
      rw [e] at hi
      unfold evWords at hi
      simp only [(numR_iff.1 h1).1, (numR_iff.1 h2).1, (numR_iff.1 h4).1, hk.2.2] at hi
      by_cases hb : bareB k' = true
      · rw [if_pos hb] at hi
        rw [if_pos hb, if_neg]
        intro hh
        have := congrArg List.length (hi.1 hh)
        simp at this
      · rw [if_neg hb] at hi
        rw [if_neg hb, if_pos (hi.2 rfl)]
    · rfl
  · rfl
/-! all lines -/
def lnK (ls : List Bs) (i : Nat) : Bs := ls.getD i []
def lineOkB (ls : List Bs) (i : Nat) : Bool := if i + 1 = ls.length then decide (lnK ls i = [] ∧ 0 < i) else if i = 0 then (thingsR (lnK ls 0)).isSome else (eventR (lnK ls i)).isSome
def evsK (ls : List Bs) (k : Nat) : List Ev := (List.range (k - 1)).map fun i => (eventR (lnK ls (i + 1))).getD ⟨0, 0, 0, 0⟩
theorem evsK_succ (ls : List Bs) (k : Nat) : evsK ls (k + 2) = evsK ls (k + 1) ++ [(eventR (lnK ls (k + 1))).getD ⟨0, 0, 0, 0⟩] := by
  unfold evsK
  rw [show k + 2 - 1 = k + 1 from rfl, show k + 1 - 1 = k from rfl, List.range_succ, List.map_append]; rfl
theorem evsK_len (ls : List Bs) (k : Nat) : (evsK ls k).length = k - 1 := by simp [evsK]
def tysK (ls : List Bs) : List Int := (thingsR (lnK ls 0)).getD []
theorem splitL_len (c : UInt8) : ∀ l : Bs, (splitL c l).length ≤ l.length + 1
  | [] => by simp [splitL]
  | b :: r => by
    have := splitL_len c r
    rw [splitL]
    split
    · simp; omega
    · split
      · simp
      · rename_i x t e
        rw [e] at this
        simp at this ⊢; omega
theorem thingsR_ok {line : Bs} {ts : List Int} (h : thingsR line = some ts) : ts.length ≤ 4 ∧ 1 ≤ ts.length ∧ ∀ t ∈ ts, 1 ≤ t ∧ t ≤ 5 := by
  unfold thingsR at h
  split at h
  · split at h
    · rename_i h2
      obtain ⟨h3, _⟩ := allOf_len h
      exact ⟨by omega, by omega, (allOf_map h).2⟩
    · cases h
  · cases h
end Go.Proofs.YthecmfhoaneejaaDoor

namespace Go.Proofs.YthecmfhoaneejaaDoor
open Go.RowKit

section
variable {P : Program} (w : World)
end
section
variable {P : Program} {C : Ctx} {Q : Exit → Act → World → Prop} {E : Slots} {S : List Ent} {l rest : List Oper}
variable {t m e M bytes d g p n c k o : Nat} {x y : Operand} {v z : Value} {ty : TypeId} {g0 : Option (Nat × Bool)} {ps : String} {af : Array Edge}
theorem QS_sliceLow [hs : SliceOf P t e m] {k : IntKind} {l : Nat} (hx : evo E x = some (.slice (some ⟨g, p, none⟩) n c)) (hy : evo E y = some (.int k (l : Nat))) (hl : l ≤ n) :
    QS P C E S (.slice t x (some y) none none) ty (.slice (some ⟨g, if c = l then p else p + l * m, none⟩) (n - l) (c - l)) :=
  QS.of (fun a w ha _ => by
    have he : P.elem t = e := by simp [Program.elem, hs.und]
    have hu : P.underlying t = some (.slice (P.elem t)) := by rw [he]; exact hs.und
    have hr := run_slice_l (P := P) (w := w) t (some ⟨g, p, none⟩) n c hu k (l : Int) (by omega) (by omega)
    rw [he, hs.size w] at hr
    simp only [Result.andThen_ok, Int.toNat_natCast] at hr
    have hv : sliced (some ⟨g, p, none⟩) l n c m = .slice (some ⟨g, if c = l then p else p + l * m, none⟩) (n - l) (c - l) := by
      unfold sliced
      split <;> simp [add_mk]
    rw [hv] at hr
    simp [execOp, ha.evo hx, ha.evo hy, run_sliceAt_slice (P := P) (w := w) t _ _ _ _ hu, hr])
end
end Go.Proofs.YthecmfhoaneejaaDoor

namespace Go.Proofs.YthecmfhoaneejaaDoor
open Go.RowKit

def boolEnc (b : Bool) : List Value := [.bool b]
section
variable {P : Program} {C : Ctx} {Q : Exit → Act → World → Prop} {E : Slots} {S S' : List Ent} {l rest : List Oper}
variable {d ty ty2 ty3 : Nat} {ps : String} {af : Array Edge} {g0 : Option (Nat × Bool)} {x y : Operand} {v u z : Value} {s t e m M bytes g c n : Nat} {A : Option Addr} {cs : Array Value}
/-- a block whole, as a list -/
theorem Mem.asOwn {α : Type} {enc : α → List Value} {w : World} (ls : List α) (hu : Upd S (entBlk g e cs) (entOwn enc M e (some ⟨g, 0, Option.none⟩) ls.length ls) S') (hcs : cs.toList = ls.flatMap enc) (hM : ∀ x, (enc x).length = M) (hl : ls.length ≤ maxLen) (hw : Mem C w S) : Mem C w S' := by
  have hb : Blk w g e cs := (hw.holds _ hu.mem).1
  refine hw.upd hu (Keeps.refl [] w) (by simp) (fun k hk => ?_) ?_
  · have : some g = some k := hk
    cases this
    exact ⟨hb.lt, .inl rfl⟩
  · show Own enc M e w 0 (.slice (some ⟨g, 0, Option.none⟩) ls.length ls.length) ls
    refine ⟨flat_len hM ls, .inr ⟨g, ls.length, cs, rfl, Nat.zero_le _, hb, Nat.le_refl _, hl, ?_, ?_⟩⟩
    · have := congrArg List.length hcs
      rw [flat_len hM] at this
      simpa using this
    · rw [hcs, List.take_of_length_le (by rw [flat_len hM]; exact Nat.le_refl _)]
theorem TL_own {α : Type} {enc : α → List Value} {ls : List α} (hm : entOwn enc M e A c ls ∈ S) (hl : 0 < ls.length) (h : ∀ g, A = some ⟨g, 0, none⟩ → TL P C l Q rest E S) : TL P C l Q rest E S :=
  ⟨fun a w ha hw => by
    have ho : Own enc M e w 0 (.slice A ls.length c) ls := (hw.holds _ hm).1
    rcases ho.2 with ⟨hn, h0⟩ | ⟨g, cap, cur, hv, _⟩
    · omega
    · simp only [Value.slice.injEq] at hv
      exact (h g hv.1).run a w ha hw⟩
theorem TL_mem (hS : ∀ w, Mem C w S → Mem C w S') (h : TL P C l Q rest E S') : TL P C l Q rest E S := ⟨fun a w ha hw => h.run a w ha (hS w hw)⟩
/-- one item appended, out of a literal -/
theorem ES_append1 {α : Type} {enc : α → List Value} {gy cy ty' : Nat} {xx : α} {ls : List α} [hs : SliceOf P t e M] [hi : InfoOf P e z M bytes] {S' : Option Addr → Nat → List Ent} (hx : evo E x = some (.slice A ls.length c)) (hy : evo E y = some (.slice (some ⟨gy, 0, none⟩) 1 cy))
    (hm : entBlk gy ty' cs ∈ S) (hcs : cs.toList = enc xx) (hM : ∀ x, (enc x).length = M) (h1 : ∀ x, (enc x).all (·.oneCell') = true)
    (hu : ∀ A' c', Upd S (entOwn enc M e A c ls) (entOwn enc M e A' c' (ls ++ [xx])) (S' A' c')) (hb : (ls.length + 1) * bytes ≤ 140737488355328) (hb0 : 0 < bytes) (hd : Nat.ble (d + 1) C.n = true) :
    ES P C E S ⟨some d, .call ⟨.builtin .append, #[x, y], #[t, t]⟩, ty, ps, af, g0⟩ (fun E' T => ∃ A' c', E' = (d, .slice A' (ls ++ [xx]).length c') :: E ∧ T = S' A' c') :=
  ES_append (xs := [xx]) hx hy (by have := Lies.blk (C := C) (n := 1) (c := cy) hm; rw [hcs] at this; simpa using this) hM h1 hu hb hb0 hd
/-! numbers that wrap -/
section
variable {k : IntKind} {a b : Int} (hx : evo E x = some (.int k a)) (hy : evo E y = some (.int k b))
include hx hy
theorem QS_addW : QS P C E S (.binOp .add ty2 x y ty3) ty (.int k (k.wrap (a + b))) := QS.of (fun _ w ha _ => binInt ha hx hy _ (by simp [binOp, Op.intArith]))
theorem QS_subW : QS P C E S (.binOp .sub ty2 x y ty3) ty (.int k (k.wrap (a - b))) := QS.of (fun _ w ha _ => binInt ha hx hy _ (by simp [binOp, Op.intArith]))
theorem QS_mulW : QS P C E S (.binOp .mul ty2 x y ty3) ty (.int k (k.wrap (a * b))) := QS.of (fun _ w ha _ => binInt ha hx hy _ (by simp [binOp, Op.intArith]))
end
theorem i64_wrap_add (m n : Int) : IntKind.i64.wrap (IntKind.i64.wrap m + IntKind.i64.wrap n) = IntKind.i64.wrap (m + n) := by
  simp only [IntKind.wrap_i64]
  omega
theorem QS_addWW {a b : Int} (hx : evo E x = some (.int .i64 (IntKind.i64.wrap a))) (hy : evo E y = some (.int .i64 (IntKind.i64.wrap b))) : QS P C E S (.binOp .add ty2 x y ty3) ty (.int .i64 (IntKind.i64.wrap (a + b))) :=
  QS.of (fun _ w ha _ => binInt ha hx hy _ (by simp [binOp, Op.intArith, i64_wrap_add]))
/-! a slice, asked whether it is nil -/
section
variable [hs : SliceOf P t e m] (hx : evo E x = some (.slice A n c)) (hy : evo E y = some (.slice none 0 0))
include hs hx hy
theorem QS_eqlNil : QS P C E S (.binOp .eql t x y ty3) ty (.bool A.isNone) :=
  QS.of (fun a w ha _ => by
    have h2 := Lib.run_eql_slice_nil (P := P) w t e A n c 0 0 hs.und
    have hg : (eqGuard .eql t x y (.slice A n c) (.slice none 0 0)).run P w = .ok () w := by
      unfold eqGuard
      simp [run_underlying hs.und]
    simp only [execOp, ha.evo hx, ha.evo hy, Sem.run_bind, hg, Result.andThen_ok, h2]; rfl)
theorem QS_neqNil : QS P C E S (.binOp .neq t x y ty3) ty (.bool (!A.isNone)) :=
  QS.of (fun a w ha _ => by
    have h2 := run_neq_slice_nil_any (P := P) w t e A n c 0 0 hs.und
    have hg : (eqGuard .neq t x y (.slice A n c) (.slice none 0 0)).run P w = .ok () w := by
      unfold eqGuard
      simp [run_underlying hs.und]
    simp only [execOp, ha.evo hx, ha.evo hy, Sem.run_bind, hg, Result.andThen_ok, h2]; rfl)
end
end

/-! results that lie in memory -/
section
variable {P : Program} {C : Ctx} {E : Slots} {S : List Ent}
inductive ResIs (P : Program) (C : Ctx) (E : Slots) (S : List Ent) : List ResultVar → List Value → Prop
  | nil : ResIs P C E S [] []
  | tmp {t : Nat} {v : Value} {r : List ResultVar} {vs : List Value} (hv : look t E = some v) (h : ResIs P C E S r vs) : ResIs P C E S (.tmp t :: r) (v :: vs)
  | cell {a t : Nat} {ad : Addr} {v : Value} {r : List ResultVar} {vs : List Value} (ha : look a E = some (.pointer (some ad))) (hl : Lds P C S t ad v) (h : ResIs P C E S r vs) : ResIs P C E S (.cell a t :: r) (v :: vs)
theorem results_is {fn : Func} {rs : List ResultVar} {vs : List Value} {a : Act} {w : World} (hfn : fn.results = rs.toArray) (ha : Env C.n a E) (hw : Mem C w S) (h : ResIs P C E S rs vs) : (results fn a.tmps).run P w = .ok (resVal vs) w := by
  have key : (rs.mapM (resG a.tmps)).run P w = .ok vs w := by
    induction h generalizing fn with
    | nil => simp
    | @tmp t v r vs hv _ ih =>
      have := ha.2.2 t v hv
      simp [List.mapM_cons, ih (fn := { fn with results := r.toArray }) rfl, resG, this]
    | @cell a' t ad v r vs hv hl _ ih =>
      have := ha.2.2 a' _ hv
      have h1 : (asAddr (Value.pointer (some ad))).run P w = .ok ad w := rfl
      simp [List.mapM_cons, ih (fn := { fn with results := r.toArray }) rfl, resG, this, h1, hl w hw]
  have e : results fn a.tmps = (do let vs ← fn.results.mapM (resG a.tmps); pure (if h : vs.size = 1 then vs[0] else .tuple vs)) := rfl
  rw [e, hfn]
  simp only [Array.mapM_eq_mapM_toList, Sem.run_bind, Sem.run_map, key]
  match vs with
  | [] => simp [resVal]
  | [v] => simp [resVal]
  | u :: v :: vs => simp [resVal]
theorem At_retM {fn : Func} {R : Ending → World → Prop} {rs : List ResultVar} {vs : List Value} (hfn : fn.results = rs.toArray) (hr : ResIs P C E S rs vs) (h : ∀ w, Mem C w S → R (.returned (resVal vs)) w) : At C (bodyPost P fn R .ret) E S :=
  ⟨fun a w ha hw => ⟨ha.1, _, results_is hfn ha hw hr, h w hw⟩⟩
end

end Go.Proofs.YthecmfhoaneejaaDoor
