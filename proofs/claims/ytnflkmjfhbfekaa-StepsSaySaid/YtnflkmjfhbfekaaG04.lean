/- Lemmas for the walks (T5, T6, T7). No condition. -/
import Derived.Test.YtnflkmjfhbfekaaG03
import Derived.OrdersHeld
import Derived.Deep.AppendSrc
import Derived.Test.YtnflkmjfhbfekaaG01
import Derived.WalkSpells
set_option linter.unusedSimpArgs false
set_option linter.unusedVariables false
set_option linter.unusedSectionVars false
set_option linter.unnecessarySimpa false
namespace Go.Proofs.Ytnflkmjfhbfekaa
open Go.RowKit

section
variable {P : Program} {ops : Array Oper} {Q : Exit → Act → World → Prop}
def closedL (ops : Array Oper) (L : Array Bool) : Prop := ∀ j oj, ops[j]? = some oj → L.getD j false = true → ∀ ed ∈ oj.after, Region.binds .any ed = true → L.getD ed.on false = true
def waitsT (ops : Array Oper) : Nat → Nat → Nat → Bool
  | 0, _, _ => false
  | f + 1, e, i => match ops[e]? with
    | some oe => oe.after.any fun ed => Region.binds .any ed && (ed.on == i || waitsT ops f ed.on i)
    | none => false
theorem waitsT_listed {L : Array Bool} (hc : closedL ops L) {i : Nat} : ∀ (f e : Nat), waitsT ops f e i = true → L.getD e false = true → L.getD i false = true
  | 0, _, h, _ => by cases h
  | f + 1, e, h, hl => by
    unfold waitsT at h
    split at h
    · rename_i oe hoe
      obtain ⟨ed, he, hb⟩ := Array.any_eq_true'.1 h
      simp only [Bool.and_eq_true, Bool.or_eq_true, beq_iff_eq] at hb
      have h1 := hc e oe hoe hl ed he hb.1
      rcases hb.2 with h2 | h2
      · rw [← h2]; exact h1
      · exact waitsT_listed hc f ed.on h2 h1
    · cases h
theorem closedL.set {L : Array Bool} (hc : closedL ops L) {i : Nat} (hi : i ∈ Region.ready .any ops L) : closedL ops (L.setIfInBounds i true) := by
  obtain ⟨_, oi, hoi, hall⟩ := mem_ready.1 hi
  intro j oj hj hl ed he hb
  by_cases hij : i = j
  · subst hij
    obtain rfl : oj = oi := Option.some.inj (hj.symm.trans hoi)
    exact getD_set_true (hall ed he hb)
  · rw [getD_set_ne false hij] at hl
    exact getD_set_true (hc j oj hj hl ed he hb)
theorem getD_false_of_true {L : Array Bool} {i : Nat} (h : L.getD i true = false) : L.getD i false = false := by
  rcases Nat.lt_or_ge i L.size with h' | h'
  · simp [h'] at h ⊢; exact h
  · simp [Array.getElem?_eq_none h'] at h

/-- whatever order is picked; behind each operation B holds, and F till number e has come up -/
def wpAnyG (P : Program) (ops : Array Oper) (Q : Exit → Act → World → Prop) (e : Nat) (B F : World → Prop) : Nat → Array Bool → Act → World → Prop
  | 0, L, a, w => Region.ready .any ops L = [] ∧ Q .normal a w
  | n + 1, L, a, w => (Region.ready .any ops L = [] → Q .normal a w) ∧
    ∀ i ∈ Region.ready .any ops L, wpOp P ops Q i (fun a' w' => (B w' ∧ ((L.setIfInBounds i true).getD e false = false → F w')) ∧ wpAnyG P ops Q e B F n (L.setIfInBounds i true) a' w') a w
variable {e : Nat} {B F : World → Prop}
theorem wpAny_of_G : ∀ (n : Nat) (L : Array Bool) (a : Act) (w : World), wpAnyG P ops Q e B F n L a w → wpAny P .any ops Q n L a w
  | 0, _, _, _, h => h
  | n + 1, _, _, _, h => ⟨h.1, fun i hi => wpOp_mono (fun a' w' h' => wpAny_of_G n _ a' w' h'.2) (h.2 i hi)⟩
/-- an operation that yields its value in every world that may be met ahead of it may be taken first -/
theorem wpAnyG_first {i : Nat} {oi : Oper} {v : Value} (hi : ops[i]? = some oi) (hsel : Region.noSelect ops = true) (hie : i ≠ e) (G : World → Prop)
    (hG : ∀ (L : Array Bool) w, L.size = ops.size → closedL ops L → L.getD i false = false → B w → (L.getD e false = false → F w) → G w)
    (hQ : ∀ c a w, Q (.panic c) (a.put oi.dst v) w → Q (.panic c) a w) :
    ∀ (n : Nat) (L : Array Bool) (a : Act) (w : World), L.size = ops.size → closedL ops L → B w → (L.getD e false = false → F w) →
      (∀ j oj, ops[j]? = some oj → j ≠ i → L.getD j true = false → (∀ ed ∈ oj.after, Region.binds .any ed = true → ed.on ≠ i) → oi.apart ops oj = true) →
      i ∈ Region.ready .any ops L → YieldsIf P ops G oi v a →
      wpAnyG P ops Q e B F n (L.setIfInBounds i true) (a.put oi.dst v) w → wpAnyG P ops Q e B F (n + 1) L a w := by
  intro n
  induction n with
  | zero =>
    intro L a w hz hc hB hF _ hr hy H
    have hGw : G w := hG L w hz hc (getD_false_of_true (mem_ready.1 hr).1) hB hF
    refine ⟨fun h => (by rw [h] at hr; cases hr), fun j hj => ?_⟩
    by_cases hji : j = i
    · subst hji
      exact hy.wpOp hi hGw ⟨⟨hB, fun h => hF (by rwa [getD_set_ne false hie] at h)⟩, H⟩
    · have := ready_mono hj hji
      rw [H.1] at this
      cases this
  | succ n ih =>
    intro L a w hz hc hB hF hfree hr hy H
    have hGw : G w := hG L w hz hc (getD_false_of_true (mem_ready.1 hr).1) hB hF
    refine ⟨fun h => (by rw [h] at hr; cases hr), fun j hj => ?_⟩
    by_cases hji : j = i
    · subst hji
      exact hy.wpOp hi hGw ⟨⟨hB, fun h => hF (by rwa [getD_set_ne false hie] at h)⟩, H⟩
    · have h1 := H.2 j (ready_mono hj hji)
      obtain ⟨hjun, oj, hoj, hall⟩ := mem_ready.1 hj
      have hnot : ∀ ed ∈ oj.after, Region.binds .any ed = true → ed.on ≠ i := fun ed he hb heq => by
        have h1 := hall ed he hb
        have h0 := (mem_ready.1 hr).1
        rw [heq] at h1
        rcases Nat.lt_or_ge i L.size with h' | h'
        · simp [h'] at h0 h1; rw [h0] at h1; cases h1
        · simp [Array.getElem?_eq_none h'] at h1
      have h2 := wpOp_putIf hoj (hfree j oj hoj hji hjun hnot) (fun cs b => Region.noSelect_spec hsel i oi cs b hi) (fun cs b => Region.noSelect_spec hsel j oj cs b hoj) hQ hy h1
      have hfree' : ∀ k ok, ops[k]? = some ok → k ≠ i → (L.setIfInBounds j true).getD k true = false →
          (∀ ed ∈ ok.after, Region.binds .any ed = true → ed.on ≠ i) → oi.apart ops ok = true := fun k ok hk hki hun hno => by
        refine hfree k ok hk hki ?_ hno
        by_cases hjk : j = k
        · subst hjk; exact hjun
        · rw [getD_set_ne true hjk] at hun; exact hun
      refine wpOp_mono (fun a' w' h3 => ?_) h2
      obtain ⟨hy', ⟨hB', hF'⟩, hK⟩ := h3
      rw [Array.setIfInBounds_comm _ _ (Ne.symm hji)] at hF' hK
      have hF2 : (L.setIfInBounds j true).getD e false = false → F w' := fun h => hF' (by rw [getD_set_ne false hie]; exact h)
      exact ⟨⟨hB', hF2⟩, ih (L.setIfInBounds j true) a' w' (by simpa using hz) (hc.set hj) hB' hF2 hfree' (ready_mono hr (Ne.symm hji)) hy' hK⟩
theorem wpAnyG_alone {i n : Nat} {L : Array Bool} {a : Act} {w : World} (hr : Region.ready .any ops L = [i])
    (h : wpOp P ops Q i (fun a' w' => (B w' ∧ ((L.setIfInBounds i true).getD e false = false → F w')) ∧ wpAnyG P ops Q e B F n (L.setIfInBounds i true) a' w') a w) : wpAnyG P ops Q e B F (n + 1) L a w :=
  ⟨fun h0 => (by rw [hr] at h0; cases h0), fun j hj => by
    rw [hr] at hj
    obtain rfl : j = i := by simpa using hj
    exact h⟩
end

/-- an order, or more than one: 0: reads nothing that may be written; 1: reads, ahead of number e; 2: acts, ahead of e; 3: acts, from e on -/
inductive OT where
  | nil : OT
  | step (m i : Nat) (r : OT) : OT
  | fork (x y : OT) : OT
inductive Tr where
  | nil : Tr
  | step (m i : Nat) (o : Oper) (r : Tr) : Tr
  | fork (x y : Tr) : Tr
def Tr.head : Tr → Option Oper
  | .step _ _ o _ => some o
  | _ => none
def OT.seq : List (Nat × Nat) → OT → OT
  | [], t => t
  | (m, i) :: r, t => .step m i (OT.seq r t)
def nthO : List Oper → Nat → Option Oper
  | [], _ => none
  | o :: _, 0 => some o
  | _ :: l, i + 1 => nthO l i
theorem nthO_eq : ∀ (l : List Oper) (i : Nat), l[i]? = nthO l i
  | [], i => by simp [nthO]
  | o :: l, 0 => by simp [nthO]
  | o :: l, i + 1 => by simpa [nthO] using nthO_eq l i
def picks (l : List Oper) : OT → Option Tr
  | .nil => some .nil
  | .step m i r => match nthO l i, picks l r with
    | some o, some t => some (.step m i o t)
    | _, _ => none
  | .fork x y => match picks l x, picks l y with
    | some a, some b => some (.fork a b)
    | _, _ => none
def Tr.ok (l : List Oper) : Tr → Prop
  | .nil => True
  | .step _ i o r => l[i]? = some o ∧ r.ok l
  | .fork x y => x.ok l ∧ y.ok l
def Tr.bare : Tr → OT
  | .nil => .nil
  | .step m i _ r => .step m i r.bare
  | .fork x y => .fork x.bare y.bare
theorem picks_spec {l : List Oper} : ∀ {r : OT} {t : Tr}, picks l r = some t → t.ok l ∧ t.bare = r
  | .nil, t, h => by cases h; exact ⟨trivial, rfl⟩
  | .step m i r, t, h => by
    simp only [picks] at h
    split at h
    · rename_i o t' ho ht
      cases h
      obtain ⟨h1, h2⟩ := picks_spec ht
      exact ⟨⟨by rw [nthO_eq]; exact ho, h1⟩, by simp [Tr.bare, h2]⟩
    · cases h
  | .fork x y, t, h => by
    simp only [picks] at h
    split at h
    · rename_i a b ha hb
      cases h
      obtain ⟨h1, h2⟩ := picks_spec ha
      obtain ⟨h3, h4⟩ := picks_spec hb
      exact ⟨⟨h1, h3⟩, by simp [Tr.bare, h2, h4]⟩
    · cases h
def OT.heads : OT → List Nat
  | .nil => []
  | .step _ i _ => [i]
  | .fork x y => x.heads ++ y.heads
def OT.depth : OT → Nat
  | .nil => 0
  | .step _ _ r => r.depth + 1
  | .fork x y => max x.depth y.depth
/-- every order that may come is looked at; inF: this is one arm of a fork -/
def ordOk (e : Nat) (ops : Array Oper) : Bool → Array Bool → OT → Bool
  | false, L, .nil => (Region.ready .any ops L).isEmpty
  | true, _, .nil => false
  | inF, L, .step m i r => (match m with
      | 0 => !inF && (Region.ready .any ops L).contains i && Region.free .any ops L i && !(i == e)
      | 1 => !inF && (Region.ready .any ops L).contains i && Region.free .any ops L i && !(i == e) && (decide (ops.size ≤ e) || waitsT ops ops.size e i)
      | 2 => (inF || decide (Region.ready .any ops L = [i])) && !(i == e)
      | _ => (inF || decide (Region.ready .any ops L = [i])) && ((L.setIfInBounds i true).getD e false)) && ordOk e ops false (L.setIfInBounds i true) r
  | inF, L, .fork x y => (inF || (!(Region.ready .any ops L).isEmpty && (Region.ready .any ops L).all fun j => (x.heads ++ y.heads).contains j)) && ordOk e ops true L x && ordOk e ops true L y
def flagsOk (e : Nat) : Array Bool → OT → Bool
  | _, .nil => true
  | L, .step m i r => (match m with
      | 0 => !(i == e)
      | 1 => !(i == e)
      | 2 => !(i == e)
      | _ => (L.setIfInBounds i true).getD e false) && flagsOk e (L.setIfInBounds i true) r
  | L, .fork x y => flagsOk e L x && flagsOk e L y
theorem flags_of_ord {e : Nat} {ops : Array Oper} : ∀ {t : OT} {b : Bool} {L : Array Bool}, ordOk e ops b L t = true → flagsOk e L t = true
  | .nil, _, _, _ => rfl
  | .step m i r, b, L, h => by
    unfold ordOk at h
    match m with
    | 0 =>
      simp only [Bool.and_eq_true] at h
      simp only [flagsOk, Bool.and_eq_true]
      exact ⟨h.1.2, flags_of_ord h.2⟩
    | 1 =>
      simp only [Bool.and_eq_true] at h
      simp only [flagsOk, Bool.and_eq_true]
      exact ⟨h.1.1.2, flags_of_ord h.2⟩
    | 2 =>
      simp only [Bool.and_eq_true] at h
      simp only [flagsOk, Bool.and_eq_true]
      exact ⟨h.1.2, flags_of_ord h.2⟩
    | m + 3 =>
      simp only [Bool.and_eq_true] at h
      simp only [flagsOk, Bool.and_eq_true]
      exact ⟨h.1.2, flags_of_ord h.2⟩
  | .fork x y, b, L, h => by
    unfold ordOk at h
    simp only [Bool.and_eq_true] at h
    simp only [flagsOk, Bool.and_eq_true]
    exact ⟨flags_of_ord h.1.2, flags_of_ord h.2⟩
/-- what the tree of orders says of a walk -/
def semD (P : Program) (ops : Array Oper) (Q : Exit → Act → World → Prop) (e : Nat) (B F : World → Prop) : Tr → Array Bool → Act → World → Prop
  | .nil, _, a, w => Q .normal a w
  | .step m i o r, L, a, w => if m ≤ 1 then ∃ v, YieldsIf P ops (fun w => if m = 0 then B w else F w) o v a ∧ semD P ops Q e B F r (L.setIfInBounds i true) (a.put o.dst v) w
      else wpOp P ops Q i (fun a' w' => (B w' ∧ ((L.setIfInBounds i true).getD e false = false → F w')) ∧ semD P ops Q e B F r (L.setIfInBounds i true) a' w') a w
  | .fork x y, L, a, w => semD P ops Q e B F x L a w ∧ semD P ops Q e B F y L a w
section
variable {P : Program} {ops : Array Oper} {Q : Exit → Act → World → Prop} {e : Nat} {B F : World → Prop}
theorem ready_lt {L : Array Bool} {i : Nat} (h : i ∈ Region.ready .any ops L) : ∃ oi, ops[i]? = some oi := by
  obtain ⟨_, oi, hoi, _⟩ := mem_ready.1 h
  exact ⟨oi, hoi⟩
theorem any_of_sem (hsel : Region.noSelect ops = true) (hQ : ∀ c a (dst : Option Tmp) v w, Q (.panic c) (a.put dst v) w → Q (.panic c) a w) : ∀ (t : Tr) (b : Bool) (L : Array Bool) (a : Act) (w : World) (n : Nat), t.ok ops.toList → ordOk e ops b L t.bare = true → t.bare.depth ≤ n → L.size = ops.size → closedL ops L → B w → (L.getD e false = false → F w) → semD P ops Q e B F t L a w →
    (b = false → wpAnyG P ops Q e B F n L a w) ∧ (b = true → 0 < n ∧ ∀ j ∈ t.bare.heads, j ∈ Region.ready .any ops L → wpOp P ops Q j (fun a' w' => (B w' ∧ ((L.setIfInBounds j true).getD e false = false → F w')) ∧ wpAnyG P ops Q e B F (n - 1) (L.setIfInBounds j true) a' w') a w) := by
  intro t
  induction t with
  | nil =>
    intro b L a w n _ hord _ _ _ _ _ hs
    cases b with
    | true => simp [Tr.bare, ordOk] at hord
    | false =>
      have hr : Region.ready .any ops L = [] := by simpa [Tr.bare, ordOk] using hord
      refine ⟨fun _ => ?_, fun h => by cases h⟩
      cases n with
      | zero => exact ⟨hr, hs⟩
      | succ n => exact ⟨fun _ => hs, fun i hi => by rw [hr] at hi; cases hi⟩
  | step m i o r ih =>
    intro b L a w n hok hord hd hz hc hB hF hs
    obtain ⟨hok1, hok2⟩ := hok
    have hi : ops[i]? = some o := by simpa using hok1
    simp only [Tr.bare, OT.depth] at hd
    obtain ⟨n, rfl⟩ : ∃ k, n = k + 1 := ⟨n - 1, by omega⟩
    have hz' : (L.setIfInBounds i true).size = ops.size := by simpa using hz
    by_cases hm : m ≤ 1
    · have key : b = false ∧ (Region.ready .any ops L).contains i = true ∧ Region.free .any ops L i = true ∧ i ≠ e ∧ (m = 1 → ops.size ≤ e ∨ waitsT ops ops.size e i = true) ∧ ordOk e ops false (L.setIfInBounds i true) r.bare = true := by
        have : m = 0 ∨ m = 1 := by omega
        rcases this with rfl | rfl
        · simp only [Tr.bare, ordOk, Bool.and_eq_true, Bool.not_eq_true', beq_eq_false_iff_ne] at hord
          exact ⟨hord.1.1.1.1, hord.1.1.1.2, hord.1.1.2, hord.1.2, by simp, hord.2⟩
        · simp only [Tr.bare, ordOk, Bool.and_eq_true, Bool.not_eq_true', beq_eq_false_iff_ne, Bool.or_eq_true, decide_eq_true_eq] at hord
          exact ⟨hord.1.1.1.1.1, hord.1.1.1.1.2, hord.1.1.1.2, hord.1.1.2, fun _ => hord.1.2, hord.2⟩
      obtain ⟨rfl, k1, k2, k3, k4, k5⟩ := key
      refine ⟨fun _ => ?_, fun h => by cases h⟩
      simp only [semD, if_pos hm] at hs
      obtain ⟨v, hy, hs⟩ := hs
      have hr : i ∈ Region.ready .any ops L := by simpa using k1
      refine wpAnyG_first hi hsel k3 (fun w => if m = 0 then B w else F w) (fun L' w' hz' hc' hL' hB' hF' => ?_) (fun c a w h => hQ c _ _ _ w h) n L a w hz hc hB hF (Region.free_spec hi k2) hr hy
        ((ih false _ _ w n hok2 k5 (by omega) hz' (hc.set hr) hB (fun h => hF (by rwa [getD_set_ne false k3] at h)) hs).1 rfl)
      by_cases hm0 : m = 0
      · rw [if_pos hm0]; exact hB'
      · rw [if_neg hm0]
        have hm1 : m = 1 := by omega
        refine hF' ?_
        cases he : L'.getD e false with
        | false => rfl
        | true =>
          rcases k4 hm1 with h1 | h1
          · have hn : L'[e]? = Option.none := Array.getElem?_eq_none (by omega)
            simp [hn] at he
          · have := waitsT_listed hc' _ _ h1 he
            rw [hL'] at this; cases this
    · have key : (b = true ∨ Region.ready .any ops L = [i]) ∧ ordOk e ops false (L.setIfInBounds i true) r.bare = true := by
        match m, hm with
        | 2, _ =>
          simp only [Tr.bare, ordOk, Bool.and_eq_true, Bool.or_eq_true, decide_eq_true_eq] at hord
          exact ⟨hord.1.1, hord.2⟩
        | m + 3, _ =>
          simp only [Tr.bare, ordOk, Bool.and_eq_true, Bool.or_eq_true, decide_eq_true_eq] at hord
          exact ⟨hord.1.1, hord.2⟩
      obtain ⟨k1, k2⟩ := key
      simp only [semD, if_neg hm] at hs
      have step : i ∈ Region.ready .any ops L → wpOp P ops Q i (fun a' w' => (B w' ∧ ((L.setIfInBounds i true).getD e false = false → F w')) ∧ wpAnyG P ops Q e B F n (L.setIfInBounds i true) a' w') a w := fun hr =>
        wpOp_mono (fun a' w' ⟨⟨hB', hF'⟩, hs'⟩ => ⟨⟨hB', hF'⟩, (ih false _ a' w' n hok2 k2 (by omega) hz' (hc.set hr) hB' hF' hs').1 rfl⟩) hs
      refine ⟨fun hb => ?_, fun hb => ⟨by omega, fun j hj hr => ?_⟩⟩
      · have hr1 : Region.ready .any ops L = [i] := k1.resolve_left (by rw [hb]; decide)
        exact wpAnyG_alone hr1 (step (by rw [hr1]; simp))
      · obtain rfl : j = i := by simpa [Tr.bare, OT.heads] using hj
        exact step hr
  | fork x y ihx ihy =>
    intro b L a w n hok hord hd hz hc hB hF hs
    simp only [Tr.bare, ordOk, Bool.and_eq_true, Bool.or_eq_true] at hord
    simp only [Tr.bare, OT.depth] at hd
    have hx := ihx true L a w n hok.1 hord.1.2 (by omega) hz hc hB hF hs.1
    have hy := ihy true L a w n hok.2 hord.2 (by omega) hz hc hB hF hs.2
    have h1 := hx.2 rfl
    have h2 := hy.2 rfl
    have all : ∀ j ∈ x.bare.heads ++ y.bare.heads, j ∈ Region.ready .any ops L → wpOp P ops Q j (fun a' w' => (B w' ∧ ((L.setIfInBounds j true).getD e false = false → F w')) ∧ wpAnyG P ops Q e B F (n - 1) (L.setIfInBounds j true) a' w') a w := fun j hj hr => by
      rcases List.mem_append.1 hj with hj | hj
      · exact h1.2 j hj hr
      · exact h2.2 j hj hr
    refine ⟨fun hb => ?_, fun _ => ⟨h1.1, all⟩⟩
    rcases hord.1.1 with h | h
    · rw [hb] at h; cases h
    · obtain ⟨k, rfl⟩ : ∃ k, n = k + 1 := ⟨n - 1, by omega⟩
      simp only [Bool.not_eq_true', List.isEmpty_eq_false_iff, List.all_eq_true] at h
      exact ⟨fun h0 => absurd h0 h.1, fun i hi => all i (by simpa using h.2 i hi) hi⟩
end

structure TD (P : Program) (C : Ctx) (l : List Oper) (Q : Exit → Act → World → Prop) (e : Nat) (S0 : List Ent) (t : Tr) (E : Slots) (S : List Ent) : Prop where
  run : ∀ (L : Array Bool) a w, t.ok l → flagsOk e L t.bare = true → Env C.n a E → Mem C w S → (L.getD e false = false → Mem C w S0) → semD P l.toArray Q e (fun w => Mem C w []) (fun w => Mem C w S0) t L a w

section
variable {P : Program} {C : Ctx} {Q : Exit → Act → World → Prop} {e : Nat} {S0 S : List Ent} {E : Slots} {l : List Oper} {t : Tr}
variable {d ty i : Nat} {ps : String} {af : Array Edge} {op : Op} {v : Value}
/-- where a panic would go, the frame is not looked at -/
def Blind (Q : Exit → Act → World → Prop) : Prop := ∀ c a (dst : Option Tmp) v w, Q (.panic c) (a.put dst v) w → Q (.panic c) a w
theorem Mem.none {w : World} (h : Mem C w S) : Mem C w [] := h.sub (List.nil_sublist _)
/-- what is held throughout is S0 -/
theorem T_drawS {id : Nat} (S0 : List Ent) (e : Nat) (order : OT) {t : Tr} (hS : S0.Sublist S) (hm : P.follows .mixedOrders = true) (hp : picks l order = some t)
    (hB : (Region.noSelect l.toArray && Nat.ble order.depth l.length && ordOk e l.toArray false (Array.replicate l.length false) order) = true) (hb : Blind Q) (h : TD P C l Q e S0 t E S) : T P C (.region id l.toArray true) Q E S := by
  refine ⟨fun a w ha hw => ?_⟩
  simp only [Bool.and_eq_true] at hB
  obtain ⟨⟨hsel, hlen⟩, hord⟩ := hB
  have hlen' := Nat.le_of_ble_eq_true hlen
  obtain ⟨h1, h2⟩ := picks_spec hp
  refine wp_region_any hm ?_
  have hF : (Array.replicate l.length false).getD e false = false → Mem C w.drew S0 := fun _ => hw.drew.sub hS
  have := (any_of_sem hsel hb t false (Array.replicate l.length false) a w.drew l.length (by simpa using h1) (by rw [h2]; exact hord) (by rw [h2]; exact hlen') (by simp) (fun j oj _ hl => by
      exfalso
      rcases Nat.lt_or_ge j l.length with h | h
      · simp [h] at hl
      · simp [h] at hl) hw.drew.none hF (h.run _ a w.drew h1 (by rw [h2]; exact flags_of_ord hord) ha hw.drew hF)).1 rfl
  have := wpAny_of_G _ _ _ _ this
  simpa using this
theorem T_draw {id : Nat} (e : Nat) (order : OT) {t : Tr} (hm : P.follows .mixedOrders = true) (hp : picks l order = some t)
    (hB : (Region.noSelect l.toArray && Nat.ble order.depth l.length && ordOk e l.toArray false (Array.replicate l.length false) order) = true) (hb : Blind Q) (h : TD P C l Q e S t E S) : T P C (.region id l.toArray true) Q E S :=
  T_drawS S e order (List.Sublist.refl _) hm hp hB hb h
theorem TD_nil (h : At C (Q .normal) E S) : TD P C l Q e S0 .nil E S :=
  ⟨fun L a w _ _ ha hw _ => h.run a w ha hw⟩
theorem TD_fork {x y : Tr} (hx : TD P C l Q e S0 x E S) (hy : TD P C l Q e S0 y E S) : TD P C l Q e S0 (.fork x y) E S :=
  ⟨fun L a w hok hfl ha hw hF => by
    simp only [Tr.bare, flagsOk, Bool.and_eq_true] at hfl
    exact ⟨hx.run L a w hok.1 hfl.1 ha hw hF, hy.run L a w hok.2 hfl.2 ha hw hF⟩⟩
theorem TD_take {m : Nat} {o : Oper} (hmode : m = 0 ∨ m = 1) {E' : Slots}
    (hy : ∀ a, Env C.n a E → YieldsIf P l.toArray (fun w => if m = 0 then Mem C w [] else Mem C w S0) o v a ∧ Env C.n (a.put o.dst v) E') (h : TD P C l Q e S0 t E' S) : TD P C l Q e S0 (.step m i o t) E S := by
  refine ⟨fun L a w hok hfl ha hw hF => ?_⟩
  obtain ⟨hy1, hy2⟩ := hy a ha
  have key : i ≠ e ∧ flagsOk e (L.setIfInBounds i true) t.bare = true := by
    rcases hmode with rfl | rfl
    · simp only [Tr.bare, flagsOk, Bool.and_eq_true, Bool.not_eq_true', beq_eq_false_iff_ne] at hfl
      exact hfl
    · simp only [Tr.bare, flagsOk, Bool.and_eq_true, Bool.not_eq_true', beq_eq_false_iff_ne] at hfl
      exact hfl
  simp only [semD]
  rw [if_pos (by omega)]
  exact ⟨v, hy1, h.run _ _ w hok.2 key.2 hy2 hw (fun h => hF (by rwa [getD_set_ne false key.1] at h))⟩
theorem yIf {G : World → Prop} {o : Oper} {a : Act} {dst : Option Tmp} {g : Option (Nat × Bool)} (ho : o = ⟨dst, op, ty, ps, af, g⟩) (hw : Region.wanted o (yielded l.toArray a.tmps) = true)
    (hr : ∀ w, G w → (execOp a.eval ⟨dst, op, ty, ps, af, g⟩).run P w = .ok (.value v) w) : YieldsIf P l.toArray G o v a := .inl ⟨hw, fun w h => by rw [ho]; exact hr w h⟩
/-! what is taken first -/
theorem TD_q0 (hq : QS P C E [] op ty v) (hd : Nat.ble (d + 1) C.n = true) (h : TD P C l Q e S0 t ((d, v) :: E) S) : TD P C l Q e S0 (.step 0 i ⟨some d, op, ty, ps, af, none⟩ t) E S :=
  TD_take (v := v) (.inl rfl) (fun a ha => ⟨yIf rfl (by simp [Region.wanted]) (fun w hw => hq _ _ _ _ a w ha (by simpa using hw)), ha.put hd v⟩) h
theorem TD_q1 (hq : QS P C E S0 op ty v) (hd : Nat.ble (d + 1) C.n = true) (h : TD P C l Q e S0 t ((d, v) :: E) S) : TD P C l Q e S0 (.step 1 i ⟨some d, op, ty, ps, af, none⟩ t) E S :=
  TD_take (v := v) (.inr rfl) (fun a ha => ⟨yIf rfl (by simp [Region.wanted]) (fun w hw => hq _ _ _ _ a w ha (by simpa using hw)), ha.put hd v⟩) h
section
variable {j k : Nat} {b want : Bool}
theorem wanted_yes {a : Act} {o : Oper} (ha : Env C.n a E) (ho : o.guard = some (j, want)) (hj : dstAt l j = some k) (hk : look k E = some (.bool b)) (hb : b = want) : Region.wanted o (yielded l.toArray a.tmps) = true := by
  simp only [Region.wanted, ho, yielded_at ha hj hk, hb]; simp
theorem wanted_no {a : Act} {o : Oper} (ha : Env C.n a E) (ho : o.guard = some (j, want)) (hj : dstAt l j = some k) (hk : look k E = some (.bool b)) (hb : b = !want) : Region.wanted o (yielded l.toArray a.tmps) = false := by
  simp only [Region.wanted, ho, yielded_at ha hj hk, hb]; cases want <;> rfl
theorem wanted_undef {a : Act} {o : Oper} (ha : Env C.n a E) (ho : o.guard = some (j, want)) (hj : dstAt l j = some k) (hk : look k E = some undef) : Region.wanted o (yielded l.toArray a.tmps) = false := by
  simp only [Region.wanted, ho, yielded_undef ha hj hk]; rfl
theorem TD_q0y (hj : dstAt l j = some k) (hk : look k E = some (.bool b)) (hb : b = want) (hq : QS P C E [] op ty v) (hd : Nat.ble (d + 1) C.n = true) (h : TD P C l Q e S0 t ((d, v) :: E) S) : TD P C l Q e S0 (.step 0 i ⟨some d, op, ty, ps, af, some (j, want)⟩ t) E S :=
  TD_take (v := v) (.inl rfl) (fun a ha => ⟨yIf rfl (wanted_yes ha rfl hj hk hb) (fun w hw => hq _ _ _ _ a w ha (by simpa using hw)), ha.put hd v⟩) h
theorem TD_q1y (hj : dstAt l j = some k) (hk : look k E = some (.bool b)) (hb : b = want) (hq : QS P C E S0 op ty v) (hd : Nat.ble (d + 1) C.n = true) (h : TD P C l Q e S0 t ((d, v) :: E) S) : TD P C l Q e S0 (.step 1 i ⟨some d, op, ty, ps, af, some (j, want)⟩ t) E S :=
  TD_take (v := v) (.inr rfl) (fun a ha => ⟨yIf rfl (wanted_yes ha rfl hj hk hb) (fun w hw => hq _ _ _ _ a w ha (by simpa using hw)), ha.put hd v⟩) h
theorem TD_no {m : Nat} (hm : Nat.ble m 1 = true) (hj : dstAt l j = some k) (hk : look k E = some (.bool b)) (hb : b = !want) (hd : Nat.ble (d + 1) C.n = true) (h : TD P C l Q e S0 t ((d, undef) :: E) S) : TD P C l Q e S0 (.step m i ⟨some d, op, ty, ps, af, some (j, want)⟩ t) E S :=
  TD_take (v := undef) (by have := Nat.le_of_ble_eq_true hm; omega) (fun a ha => ⟨.inr ⟨wanted_no ha rfl hj hk hb, rfl⟩, ha.put hd undef⟩) h
theorem TD_noU {m : Nat} (hm : Nat.ble m 1 = true) (hj : dstAt l j = some k) (hk : look k E = some undef) (hd : Nat.ble (d + 1) C.n = true) (h : TD P C l Q e S0 t ((d, undef) :: E) S) : TD P C l Q e S0 (.step m i ⟨some d, op, ty, ps, af, some (j, want)⟩ t) E S :=
  TD_take (v := undef) (by have := Nat.le_of_ble_eq_true hm; omega) (fun a ha => ⟨.inr ⟨wanted_undef ha rfl hj hk, rfl⟩, ha.put hd undef⟩) h
theorem TD_guard {m : Nat} {dst : Option Tmp} (hj : dstAt l j = some k) (hk : look k E = some (.bool b))
    (h1 : b = true → TD P C l Q e S0 (.step m i ⟨dst, op, ty, ps, af, some (j, want)⟩ t) ((k, .bool true) :: E) S)
    (h0 : b = false → TD P C l Q e S0 (.step m i ⟨dst, op, ty, ps, af, some (j, want)⟩ t) ((k, .bool false) :: E) S) : TD P C l Q e S0 (.step m i ⟨dst, op, ty, ps, af, some (j, want)⟩ t) E S := by
  refine ⟨fun L a w hok hfl ha hw hF => ?_⟩
  cases hbb : b
  · exact (h0 hbb).run L a w hok hfl (ha.same hk (by rw [hbb])) hw hF
  · exact (h1 hbb).run L a w hok hfl (ha.same hk (by rw [hbb])) hw hF
end
/-! what acts, alone -/
theorem TD_act {m : Nat} {o : Oper} (hm : 2 ≤ m)
    (hy : ∀ a w (K : Act → World → Prop), Env C.n a E → Mem C w S → (∀ a' w' E' S', TD P C l Q e S0 t E' S' → Env C.n a' E' → Mem C w' S' → (m = 2 → Mem C w S0 → Mem C w' S0) → K a' w') →
      if Region.wanted o (yielded l.toArray a.tmps) then o.wp P a w K Q ∨ (o.asks P a w ∧ LetsOut Q) else K (a.put o.dst undef) w) : TD P C l Q e S0 (.step m i o t) E S := by
  refine ⟨fun L a w hok hfl ha hw hF => ?_⟩
  have hi : l.toArray[i]? = some o := by simpa using hok.1
  have key : (m = 2 → i ≠ e) ∧ (m ≠ 2 → (L.setIfInBounds i true).getD e false = true) ∧ flagsOk e (L.setIfInBounds i true) t.bare = true := by
    match m, hm with
    | 2, _ =>
      simp only [Tr.bare, flagsOk, Bool.and_eq_true, Bool.not_eq_true', beq_eq_false_iff_ne] at hfl
      exact ⟨fun _ => hfl.1, fun h => absurd rfl h, hfl.2⟩
    | m + 3, _ =>
      simp only [Tr.bare, flagsOk, Bool.and_eq_true] at hfl
      exact ⟨fun h => absurd h (by omega), fun _ => hfl.1, hfl.2⟩
  obtain ⟨k2, k3, k4⟩ := key
  simp only [semD]
  rw [if_neg (by omega)]
  unfold wpOp
  rw [hi]
  refine hy a w _ ha hw (fun a' w' E' S' htd ha' hw' hkeep => ?_)
  have hF' : (L.setIfInBounds i true).getD e false = false → Mem C w' S0 := fun h => by
    by_cases h2 : m = 2
    · exact hkeep h2 (hF (by rwa [getD_set_ne false (k2 h2)] at h))
    · rw [k3 h2] at h; cases h
  exact ⟨⟨hw'.none, hF'⟩, htd.run _ a' w' hok.2 k4 ha' hw' hF'⟩
theorem TD_e2 {o : Oper} {N : Slots → List Ent → Prop} (he : ES P C E S o N) (hg : o.guard = none) (h : ∀ E' S', N E' S' → S0.Sublist S' ∧ TD P C l Q e S0 t E' S') : TD P C l Q e S0 (.step 2 i o t) E S :=
  TD_act (by omega) fun a w K ha hw hK => by
    rw [if_pos (by simp [Region.wanted, hg])]
    exact .inl (he a w K Q ha hw fun a' w' E' S' hN ha' hw' => hK a' w' E' S' (h E' S' hN).2 ha' hw' (fun _ _ => hw'.sub (h E' S' hN).1))
theorem TD_e3 {o : Oper} {N : Slots → List Ent → Prop} (he : ES P C E S o N) (hg : o.guard = none) (h : ∀ E' S', N E' S' → TD P C l Q e S0 t E' S') : TD P C l Q e S0 (.step 3 i o t) E S :=
  TD_act (by omega) fun a w K ha hw hK => by
    rw [if_pos (by simp [Region.wanted, hg])]
    exact .inl (he a w K Q ha hw fun a' w' E' S' hN ha' hw' => hK a' w' E' S' (h E' S' hN) ha' hw' (fun h => absurd h (by omega)))
theorem TD_q2 (hq : QS P C E S op ty v) (hd : Nat.ble (d + 1) C.n = true) (h : TD P C l Q e S0 t ((d, v) :: E) S) : TD P C l Q e S0 (.step 2 i ⟨some d, op, ty, ps, af, none⟩ t) E S :=
  TD_act (by omega) fun a w K ha hw hK => by
    rw [if_pos (by simp [Region.wanted])]
    refine .inl ?_
    unfold Oper.wp
    rw [hq _ _ _ _ a w ha hw]
    exact hK _ _ _ _ h (ha.put hd v) hw (fun _ h => h)
theorem TD_q3 (hq : QS P C E S op ty v) (hd : Nat.ble (d + 1) C.n = true) (h : TD P C l Q e S0 t ((d, v) :: E) S) : TD P C l Q e S0 (.step 3 i ⟨some d, op, ty, ps, af, none⟩ t) E S :=
  TD_e3 (ES_core (fun u S' => u = v ∧ S' = S) (fun a w ha hw => ⟨v, w, S, hq _ _ _ _ a w ha hw, hw, rfl, rfl⟩) hd) rfl (by rintro _ _ ⟨_, ⟨rfl, rfl⟩, rfl⟩; exact h)
section
variable {j k : Nat} {b want : Bool} {m : Nat}
theorem TD_e2y {dst : Option Tmp} {N : Slots → List Ent → Prop} (hj : dstAt l j = some k) (hk : look k E = some (.bool b)) (hb : b = want) (he : ES P C E S ⟨dst, op, ty, ps, af, some (j, want)⟩ N)
    (h : ∀ E' S', N E' S' → S0.Sublist S' ∧ TD P C l Q e S0 t E' S') : TD P C l Q e S0 (.step 2 i ⟨dst, op, ty, ps, af, some (j, want)⟩ t) E S :=
  TD_act (by omega) fun a w K ha hw hK => by
    rw [if_pos (wanted_yes ha rfl hj hk hb)]
    exact .inl (he a w K Q ha hw fun a' w' E' S' hN ha' hw' => hK a' w' E' S' (h E' S' hN).2 ha' hw' (fun _ _ => hw'.sub (h E' S' hN).1))
theorem TD_e3y {dst : Option Tmp} {N : Slots → List Ent → Prop} (hj : dstAt l j = some k) (hk : look k E = some (.bool b)) (hb : b = want) (he : ES P C E S ⟨dst, op, ty, ps, af, some (j, want)⟩ N)
    (h : ∀ E' S', N E' S' → TD P C l Q e S0 t E' S') : TD P C l Q e S0 (.step 3 i ⟨dst, op, ty, ps, af, some (j, want)⟩ t) E S :=
  TD_act (by omega) fun a w K ha hw hK => by
    rw [if_pos (wanted_yes ha rfl hj hk hb)]
    exact .inl (he a w K Q ha hw fun a' w' E' S' hN ha' hw' => hK a' w' E' S' (h E' S' hN) ha' hw' (fun h => absurd h (by omega)))
theorem TD_eno (hm : Nat.ble 2 m = true) (hj : dstAt l j = some k) (hk : look k E = some (.bool b)) (hb : b = !want) (hd : Nat.ble (d + 1) C.n = true) (h : TD P C l Q e S0 t ((d, undef) :: E) S) : TD P C l Q e S0 (.step m i ⟨some d, op, ty, ps, af, some (j, want)⟩ t) E S :=
  TD_act (Nat.le_of_ble_eq_true hm) fun a w K ha hw hK => by
    rw [if_neg (by rw [wanted_no ha rfl hj hk hb]; exact Bool.false_ne_true)]
    exact hK _ _ _ _ h (ha.put hd undef) hw (fun _ h => h)
theorem TD_enoU (hm : Nat.ble 2 m = true) (hj : dstAt l j = some k) (hk : look k E = some undef) (hd : Nat.ble (d + 1) C.n = true) (h : TD P C l Q e S0 t ((d, undef) :: E) S) : TD P C l Q e S0 (.step m i ⟨some d, op, ty, ps, af, some (j, want)⟩ t) E S :=
  TD_act (Nat.le_of_ble_eq_true hm) fun a w K ha hw hK => by
    rw [if_neg (by rw [wanted_undef ha rfl hj hk]; exact Bool.false_ne_true)]
    exact hK _ _ _ _ h (ha.put hd undef) hw (fun _ h => h)
end
/-! Blind posts -/
theorem Blind.seq {K : Act → World → Prop} (h : Blind Q) : Blind (Exit.then K Q) := h
theorem Blind.block {id : Nat} (h : Blind Q) : Blind (Exit.inBlock id Q) := h
theorem Blind.body {fn : Func} {R : Ending → World → Prop} : Blind (bodyPost P fn R) := fun c a dst v w h => by
  cases dst <;> exact h
end
end Go.Proofs.Ytnflkmjfhbfekaa

namespace Go.Proofs.Ytnflkmjfhbfekaa
open Go.RowKit

section
variable {P : Program} (w : World)
theorem run_append_off (t ty e : TypeId) (i : TypeInfo) (z : Value) (ht : P.underlying t = some (.slice e)) (hi : P.info? e = some i) (hz : i.zero = some z) (hzs : z.cells.size = i.size)
    {g o c n p : Nat} {cur : Array Value} (hg : w.heap[g]? = some (.cells cur e (0, 0))) (hcs : cur.size = c * i.size) (hn : n ≤ c) (hcm : c ≤ maxLen) (ho : o ≤ n) (hp : o < c → p = o * i.size)
    (a : Addr) (m c1 : Nat) (news : List Value) (hm : 0 < m) (hl : news.length = m * i.size) (hnews : ∀ j u, news[j]? = some u → w.cell? (a.add j) = some u) (h1 : ∀ u ∈ news, u.oneCell' = true)
    (h63 : n - o + m ≤ maxLen) (hbytes : (n - o + m) * i.bytes ≤ 140737488355328) :
    ∃ w', w.grownBy w' (some g) ∧
      ((n + m ≤ c ∧ (Builtin.append_ #[t, t] ty #[.slice (some ⟨g, p, none⟩) (n - o) (c - o), .slice (some a) m c1]).run P w = .ok (.slice (some ⟨g, p, none⟩) (n - o + m) (c - o)) w' ∧
          w'.ownsRow 0 e i.size (.slice (some ⟨g, 0, none⟩) (n + m) c) (n + m) (cur.toList.take (n * i.size) ++ news)) ∨
       ∃ c', n - o + m ≤ c' ∧ (Builtin.append_ #[t, t] ty #[.slice (some ⟨g, p, none⟩) (n - o) (c - o), .slice (some a) m c1]).run P w = .ok (.slice (some ⟨w.heap.size, 0, none⟩) (n - o + m) c') w' ∧
          w'.ownsRow 0 e i.size (.slice (some ⟨w.heap.size, 0, none⟩) (n - o + m) c') (n - o + m) ((cur.toList.take (n * i.size)).drop (o * i.size) ++ news)) := by
  have hnc : n * i.size ≤ c * i.size := Nat.mul_le_mul_right _ hn
  have hon : o * i.size ≤ n * i.size := Nat.mul_le_mul_right _ ho
  have hsub : (n - o) * i.size = n * i.size - o * i.size := Nat.sub_mul ..
  have hlenx : (cur.toList.take (n * i.size) ++ news).length = (n + m) * i.size := by simp [hl, Nat.add_mul]; omega
  by_cases hroom : n + m ≤ c
  · have hpo := hp (by omega)
    have hfit : n * i.size + news.length ≤ cur.size := by rw [hl, hcs, ← Nat.add_mul]; exact Nat.mul_le_mul_right _ hroom
    have hf := run_firstCells_some (P := P) w i.size m a m c1 news hl hnews
    have hst := run_storeCells_at P g (n * i.size) e news 0 cur w hg (by simpa using hfit) h1
    simp only [Nat.add_zero] at hst
    have hadd : p + (n - o) * i.size = n * i.size := by rw [hpo, hsub]; omega
    have hro : n - o + m ≤ c - o := by omega
    refine ⟨w.setRow g (cur.toList.take (n * i.size) ++ news ++ cur.toList.drop (n * i.size + news.length)).toArray, ⟨rfl, rfl, rfl, by simp, fun k _ hk => setRow_other w g k _ (fun e => hk (by rw [e]))⟩, .inl ⟨hroom, ?_, hlenx, .inr ⟨g, c, _, rfl, Nat.zero_le _, setRow_heap w g cur _ e _ hg, hroom, hcm, ?_, ?_⟩⟩⟩
    · simp [Builtin.append_, run_underlying ht, sizeOf, typeInfo, hi, Builtin.lenOf, hro, hf, Addr.add_lit, hadd, hst]
    · simp only [List.size_toArray, List.length_append, List.length_take, List.length_drop, Array.length_toList]
      omega
    · rw [← hlenx]
      exact List.take_left
  · have holen : ((cur.toList.take (n * i.size)).drop (o * i.size)).length = (n - o) * i.size := by simp; omega
    have holds : ∀ j u, ((cur.toList.take (n * i.size)).drop (o * i.size))[j]? = some u → w.cell? ((⟨g, p, none⟩ : Addr).add j) = some u := by
      intro j u hu
      rw [List.getElem?_drop, List.getElem?_take] at hu
      split at hu
      · rename_i hlt
        have hoc : o < c := by
          rcases Nat.lt_or_ge o c with h | h
          · exact h
          · have : o = n := by omega
            subst this; omega
        rw [Addr.add_lit, hp hoc]
        unfold World.cell?
        simp only [hg]
        simpa using hu
      · cases hu
    have hr := run_append_grow (P := P) w t ty e i z ht hi hz ⟨g, p, none⟩ (n - o) (c - o) _ holen holds a m c1 news hl hnews (by omega) (by unfold maxLen at h63; omega) (growslice_fits (by omega) hbytes)
    have hge := grownCap_ge w (n - o + m) (c - o) e
    have hcm' : grownCap w (n - o + m) (c - o) e ≤ maxLen := grownCap_le_maxLen w (n - o + m) (c - o) e h63
    have hlen2 : ((cur.toList.take (n * i.size)).drop (o * i.size) ++ news).length = (n - o + m) * i.size := by rw [List.length_append, holen, hl, Nat.add_mul]
    refine ⟨w.drew.alloc (.cells (((cur.toList.take (n * i.size)).drop (o * i.size)).toArray ++ news.toArray ++ Builtin.zeroCells z.cells (grownCap w (n - o + m) (c - o) e - (n - o + m))) e), ⟨rfl, rfl, rfl, by simp, fun k hk _ => heap_alloc_old w.drew _ hk⟩, .inr ⟨_, hge, hr, hlen2, .inr ⟨w.heap.size, _, _, rfl, Nat.zero_le _, heap_alloc_new w.drew _, hge, hcm', ?_, ?_⟩⟩⟩
    · simp only [Array.size_append, List.size_toArray, size_zeroCells, hzs, holen, hl, ← Nat.add_mul]
      congr 1
      omega
    · simp only [Array.toList_append, List.append_assoc]
      rw [← List.append_assoc, ← hlen2]
      exact List.take_left
end
section
variable {P : Program} {C : Ctx} {Q : Exit → Act → World → Prop} {E : Slots} {S : List Ent} {l rest : List Oper}
variable {t m e M bytes d g p n c k o : Nat} {x y : Operand} {v z : Value} {ty : TypeId} {g0 : Option (Nat × Bool)} {ps : String} {af : Array Edge}
theorem QS_sliceLow [hs : SliceOf P t e m] {k : IntKind} {l : Nat} (hx : evo E x = some (.slice (some ⟨g, p, none⟩) n c)) (hy : evo E y = some (.int k (l : Nat))) (hl : l ≤ n) :
    QS P C E S (.slice t x (some y) none none) ty (.slice (some ⟨g, if c = l then p else p + l * m, none⟩) (n - l) (c - l)) :=
  QS.of (fun a w ha _ => by
    have he : P.elem t = e := by simp [Program.elem, hs.und]
    have hu : P.underlying t = some (.slice (P.elem t)) := by rw [he]; exact hs.und
    have hr := run_slice_l (P := P) (w := w) t (some ⟨g, p, none⟩) n c hu k (l : Int) (by omega) (by omega)
    rw [he, hs.size w] at hr
    simp only [Result.andThen_ok, Int.toNat_natCast] at hr
    have hv : sliced (some ⟨g, p, none⟩) l n c m = .slice (some ⟨g, if c = l then p else p + l * m, none⟩) (n - l) (c - l) := by
      unfold sliced
      split <;> simp [add_mk]
    rw [hv] at hr
    simp [execOp, ha.evo hx, ha.evo hy, run_sliceAt_slice (P := P) (w := w) t _ _ _ _ hu, hr])
/-- behind an append to what is left of a slice of one's own -/
theorem ES_appendOff [hs : SliceOf P t e M] [hi : InfoOf P e z M bytes] {α : Type} {enc : α → List Value} {ls xs : List α} {g p n c k o : Nat} {S' : Nat → Nat → List α → List Ent} (hx : evo E x = some (.slice (some ⟨g, p, none⟩) n k)) (hy : evo E y = some v)
    (hn : n = ls.length - o) (hk : k = c - o) (ho : o ≤ ls.length) (hp : o < c → p = o * M)
    (hl : Lies C S v xs.length (xs.flatMap enc)) (hxs : 0 < xs.length) (hM : ∀ x, (enc x).length = M) (h1 : ∀ x, (enc x).all (·.oneCell') = true)
    (hu : ∀ g' c' ls', Upd S (entOwn enc M e (some ⟨g, 0, none⟩) c ls) (entOwn enc M e (some ⟨g', 0, none⟩) c' ls') (S' g' c' ls')) (hb : (n + xs.length) * bytes ≤ 140737488355328) (hb0 : 0 < bytes) (hd : Nat.ble (d + 1) C.n = true) :
    ES P C E S ⟨some d, .call ⟨.builtin .append, #[x, y], #[t, t]⟩, ty, ps, af, g0⟩ (fun E' T => ∃ g' p' c' o' ls', ls'.drop o' = ls.drop o ++ xs ∧ o' ≤ ls'.length ∧ (o' < c' → p' = o' * M) ∧ ls'.length - o' = n + xs.length ∧
      E' = (d, .slice (some ⟨g', p', none⟩) (n + xs.length) (c' - o')) :: E ∧ T = S' g' c' ls') := by
  refine (ES_core (fun u T => ∃ g' p' c' o' ls', ls'.drop o' = ls.drop o ++ xs ∧ o' ≤ ls'.length ∧ (o' < c' → p' = o' * M) ∧ ls'.length - o' = n + xs.length ∧ u = .slice (some ⟨g', p', none⟩) (n + xs.length) (c' - o') ∧ T = S' g' c' ls') (fun a w ha hw => ?_) hd).weak (by
    rintro _ _ ⟨_, ⟨g', p', c', o', ls', h1, h2, h3, h4, rfl, rfl⟩, rfl⟩; exact ⟨g', p', c', o', ls', h1, h2, h3, h4, rfl, rfl⟩)
  have hown : Own enc M e w 0 (.slice (some ⟨g, 0, none⟩) ls.length c) ls := (hw.holds _ (hu 0 0 []).mem).1
  have hx' := ha.evo hx
  have hy' := ha.evo hy
  have run : ∀ r w', (Builtin.append_ #[t, t] ty #[.slice (some ⟨g, p, none⟩) n k, v]).run P w = .ok r w' → (execOp a.eval ⟨some d, .call ⟨.builtin .append, #[x, y], #[t, t]⟩, ty, ps, af, g0⟩).run P w = .ok (.value r) w' := by
    intro r w' h
    simp [execOp, resolve, invoke, builtin, hx', hy', h]
  have hml : n + xs.length ≤ maxLen := by
    have : n + xs.length ≤ (n + xs.length) * bytes := Nat.le_mul_of_pos_right _ hb0
    unfold maxLen; omega
  obtain ⟨i, hi0, hi1, hi2, hi3⟩ := hi.parts
  rcases hl with ⟨h0, _, _⟩ | ⟨ad, cy, rfl, hat⟩
  · omega
  rcases hown.2 with ⟨hv, _⟩ | ⟨g1, c1, cur, hv, _, hg, hnc, hcm, hcs, htake⟩
  · cases hv
  simp only [Value.slice.injEq, Option.some.injEq, Addr.mk.injEq, and_true, true_and] at hv
  obtain ⟨rfl, rfl⟩ := hv
  subst hn hk
  obtain ⟨w', hgr, hres⟩ := run_append_off (P := P) (ty := ty) w t e i z hs.und hi0 hi1 (by rw [hi.zsize, hi2]) hg (by rw [hi2]; exact hcs) hnc hcm ho (by rw [hi2]; exact hp) ad xs.length cy (xs.flatMap enc) hxs (by rw [hi2]; exact flat_len hM xs)
    (fun j u hu' => hat w hw j u hu') (fun u hu' => by
      obtain ⟨q, hq, hqu⟩ := List.mem_flatMap.1 hu'
      exact List.all_eq_true.1 (h1 q) u hqu) hml (by rw [hi3]; exact hb)
  rw [hi2] at hres
  rw [htake] at hres
  have hk : Keeps [g] w w' := ⟨hgr.os, hgr.tape, hgr.output, hgr.size, fun j hj hn => hgr.block j hj (fun e' => by
    cases e'; simp at hn)⟩
  have hlt : g < w.heap.size := (Array.getElem?_eq_some_iff.1 hg).1
  rcases hres with ⟨hroom, hr, ho2⟩ | ⟨c', hc', hr, ho2⟩
  · refine ⟨_, w', S' g c (ls ++ xs), run _ _ hr, ?_, g, p, c, o, ls ++ xs, ?_, by simp; omega, hp, by simp; omega, rfl, rfl⟩
    · refine hw.upd (hu g c (ls ++ xs)) hk (fun g' hg' => by simp at hg'; subst hg'; rfl) (fun g' hg' => ?_) ?_
      · have : some g = some g' := hg'
        cases this
        exact ⟨Nat.lt_of_lt_of_le hlt hgr.size, .inl rfl⟩
      · show Own enc M e w' 0 (.slice (some ⟨g, 0, none⟩) (ls ++ xs).length c) (ls ++ xs)
        unfold Own
        simpa using ho2
    · rw [List.drop_append_of_le_length ho]
  · have hfl : (ls.flatMap enc).drop (o * M) = (ls.drop o).flatMap enc := by
      conv => lhs; rw [← List.take_append_drop o ls, List.flatMap_append]
      rw [List.drop_append, List.drop_eq_nil_of_le (by rw [flat_len hM]; simp; exact Nat.mul_le_mul_right _ (by omega)), flat_len hM]
      simp [Nat.min_eq_left ho]
    refine ⟨_, w', S' w.heap.size c' (ls.drop o ++ xs), run _ _ hr, ?_, w.heap.size, 0, c', 0, ls.drop o ++ xs, by simp, by simp, by simp, by simp, rfl, rfl⟩
    · refine hw.upd (hu w.heap.size c' (ls.drop o ++ xs)) hk (fun g' hg' => by simp at hg'; subst hg'; rfl) (fun g' hg' => ?_) ?_
      · have : some w.heap.size = some g' := hg'
        cases this
        have := World.ownsRow.lt ho2 w.heap.size rfl
        exact ⟨this.2, .inr (Nat.le_refl _)⟩
      · show Own enc M e w' 0 (.slice (some ⟨w.heap.size, 0, none⟩) (ls.drop o ++ xs).length c') (ls.drop o ++ xs)
        unfold Own
        rw [hfl] at ho2
        simpa using ho2
end
end Go.Proofs.Ytnflkmjfhbfekaa

namespace Go.Proofs.Ytnflkmjfhbfekaa
open Go.RowKit

def natEnc (k : Nat) : List Value := [.int .i64 k]
/-- numbers, as they stand in an int -/
def wrEnc (k : Nat) : List Value := [.int .i64 (IntKind.i64.wrap k)]
def boolEnc (b : Bool) : List Value := [.bool b]
section
variable {P : Program} {C : Ctx} {Q : Exit → Act → World → Prop} {E : Slots} {S S' : List Ent} {l rest : List Oper}
variable {d ty ty2 ty3 : Nat} {ps : String} {af : Array Edge} {g0 : Option (Nat × Bool)} {x y : Operand} {v u z : Value} {s t e m M bytes g c n : Nat} {A : Option Addr} {cs : Array Value}
/-- a block whole, as a list -/
theorem Mem.asOwn {α : Type} {enc : α → List Value} {w : World} (ls : List α) (hu : Upd S (entBlk g e cs) (entOwn enc M e (some ⟨g, 0, Option.none⟩) ls.length ls) S') (hcs : cs.toList = ls.flatMap enc) (hM : ∀ x, (enc x).length = M) (hl : ls.length ≤ maxLen) (hw : Mem C w S) : Mem C w S' := by
  have hb : Blk w g e cs := (hw.holds _ hu.mem).1
  refine hw.upd hu (Keeps.refl [] w) (by simp) (fun k hk => ?_) ?_
  · have : some g = some k := hk
    cases this
    exact ⟨hb.lt, .inl rfl⟩
  · show Own enc M e w 0 (.slice (some ⟨g, 0, Option.none⟩) ls.length ls.length) ls
    refine ⟨flat_len hM ls, .inr ⟨g, ls.length, cs, rfl, Nat.zero_le _, hb, Nat.le_refl _, hl, ?_, ?_⟩⟩
    · have := congrArg List.length hcs
      rw [flat_len hM] at this
      simpa using this
    · rw [hcs, List.take_of_length_le (by rw [flat_len hM]; exact Nat.le_refl _)]
theorem Mem.ownLe {α : Type} {enc : α → List Value} {ls : List α} {w : World} (hw : Mem C w S) (hm : entOwn enc M e A c ls ∈ S) : ls.length ≤ c := by
  have ho : Own enc M e w 0 (.slice A ls.length c) ls := (hw.holds _ hm).1
  rcases ho.2 with ⟨hv, _⟩ | ⟨g, cap, cur, hv, _, _, hnc, _⟩
  · simp only [Value.slice.injEq] at hv; omega
  · simp only [Value.slice.injEq] at hv; omega
theorem T_ownLe {α : Type} {enc : α → List Value} {ls : List α} {code : Code} (hm : entOwn enc M e A c ls ∈ S) (h : ls.length ≤ c → T P C code Q E S) : T P C code Q E S :=
  ⟨fun a w ha hw => (h (hw.ownLe hm)).run a w ha hw⟩
theorem TL_ownLe {α : Type} {enc : α → List Value} {ls : List α} (hm : entOwn enc M e A c ls ∈ S) (h : ls.length ≤ c → TL P C l Q rest E S) : TL P C l Q rest E S :=
  ⟨fun a w ha hw => (h (hw.ownLe hm)).run a w ha hw⟩
theorem TL_own {α : Type} {enc : α → List Value} {ls : List α} (hm : entOwn enc M e A c ls ∈ S) (hl : 0 < ls.length) (h : ∀ g, A = some ⟨g, 0, none⟩ → TL P C l Q rest E S) : TL P C l Q rest E S :=
  ⟨fun a w ha hw => by
    have ho : Own enc M e w 0 (.slice A ls.length c) ls := (hw.holds _ hm).1
    rcases ho.2 with ⟨hn, h0⟩ | ⟨g, cap, cur, hv, _⟩
    · omega
    · simp only [Value.slice.injEq] at hv
      exact (h g hv.1).run a w ha hw⟩
theorem TL_mem (hS : ∀ w, Mem C w S → Mem C w S') (h : TL P C l Q rest E S') : TL P C l Q rest E S := ⟨fun a w ha hw => h.run a w ha (hS w hw)⟩
/-- one item appended, out of a literal -/
theorem ES_append1 {α : Type} {enc : α → List Value} {gy cy ty' : Nat} {xx : α} {ls : List α} [hs : SliceOf P t e M] [hi : InfoOf P e z M bytes] {S' : Option Addr → Nat → List Ent} (hx : evo E x = some (.slice A ls.length c)) (hy : evo E y = some (.slice (some ⟨gy, 0, none⟩) 1 cy))
    (hm : entBlk gy ty' cs ∈ S) (hcs : cs.toList = enc xx) (hM : ∀ x, (enc x).length = M) (h1 : ∀ x, (enc x).all (·.oneCell') = true)
    (hu : ∀ A' c', Upd S (entOwn enc M e A c ls) (entOwn enc M e A' c' (ls ++ [xx])) (S' A' c')) (hb : (ls.length + 1) * bytes ≤ 140737488355328) (hb0 : 0 < bytes) (hd : Nat.ble (d + 1) C.n = true) :
    ES P C E S ⟨some d, .call ⟨.builtin .append, #[x, y], #[t, t]⟩, ty, ps, af, g0⟩ (fun E' T => ∃ A' c', E' = (d, .slice A' (ls ++ [xx]).length c') :: E ∧ T = S' A' c') :=
  ES_append (xs := [xx]) hx hy (by have := Lies.blk (C := C) (n := 1) (c := cy) hm; rw [hcs] at this; simpa using this) hM h1 hu hb hb0 hd
/-! numbers that wrap -/
section
variable {k : IntKind} {a b : Int} (hx : evo E x = some (.int k a)) (hy : evo E y = some (.int k b))
include hx hy
theorem QS_addW : QS P C E S (.binOp .add ty2 x y ty3) ty (.int k (k.wrap (a + b))) := QS.of (fun _ w ha _ => binInt ha hx hy _ (by simp [binOp, Op.intArith]))
theorem QS_subW : QS P C E S (.binOp .sub ty2 x y ty3) ty (.int k (k.wrap (a - b))) := QS.of (fun _ w ha _ => binInt ha hx hy _ (by simp [binOp, Op.intArith]))
theorem QS_mulW : QS P C E S (.binOp .mul ty2 x y ty3) ty (.int k (k.wrap (a * b))) := QS.of (fun _ w ha _ => binInt ha hx hy _ (by simp [binOp, Op.intArith]))
end
theorem i64_wrap_add (m n : Int) : IntKind.i64.wrap (IntKind.i64.wrap m + IntKind.i64.wrap n) = IntKind.i64.wrap (m + n) := by
  simp only [IntKind.wrap_i64]
  omega
theorem QS_addWW {a b : Int} (hx : evo E x = some (.int .i64 (IntKind.i64.wrap a))) (hy : evo E y = some (.int .i64 (IntKind.i64.wrap b))) : QS P C E S (.binOp .add ty2 x y ty3) ty (.int .i64 (IntKind.i64.wrap (a + b))) :=
  QS.of (fun _ w ha _ => binInt ha hx hy _ (by simp [binOp, Op.intArith, i64_wrap_add]))
/-! a slice, asked whether it is nil -/
section
variable [hs : SliceOf P t e m] (hx : evo E x = some (.slice A n c)) (hy : evo E y = some (.slice none 0 0))
include hs hx hy
theorem QS_eqlNil : QS P C E S (.binOp .eql t x y ty3) ty (.bool A.isNone) :=
  QS.of (fun a w ha _ => by
    have h2 := Lib.run_eql_slice_nil (P := P) w t e A n c 0 0 hs.und
    have hg : (eqGuard .eql t x y (.slice A n c) (.slice none 0 0)).run P w = .ok () w := by
      unfold eqGuard
      simp [run_underlying hs.und]
    simp only [execOp, ha.evo hx, ha.evo hy, Sem.run_bind, hg, Result.andThen_ok, h2]; rfl)
theorem QS_neqNil : QS P C E S (.binOp .neq t x y ty3) ty (.bool (!A.isNone)) :=
  QS.of (fun a w ha _ => by
    have h2 := run_neq_slice_nil_any (P := P) w t e A n c 0 0 hs.und
    have hg : (eqGuard .neq t x y (.slice A n c) (.slice none 0 0)).run P w = .ok () w := by
      unfold eqGuard
      simp [run_underlying hs.und]
    simp only [execOp, ha.evo hx, ha.evo hy, Sem.run_bind, hg, Result.andThen_ok, h2]; rfl)
end
/-- an empty literal -/
theorem ES_buildSlice0 {α : Type} (enc : α → List Value) [hs : SliceOf P t e m] (hd : Nat.ble (d + 1) C.n = true) : ES P C E S ⟨some d, .buildSlice t 0 #[], ty, ps, af, g0⟩ (fun E' S' => ∃ g, E' = (d, .slice (some ⟨g, 0, none⟩) 0 0) :: E ∧ S' = entOwn enc m e (some ⟨g, 0, none⟩) 0 [] :: S) := by
  refine (ES_core (fun u S' => ∃ g, u = .slice (some ⟨g, 0, none⟩) 0 0 ∧ S' = entOwn enc m e (some ⟨g, 0, none⟩) 0 [] :: S) (fun a w ha hw => ?_) hd).weak (by rintro _ _ ⟨_, ⟨g, rfl, rfl⟩, rfl⟩; exact ⟨g, rfl, rfl⟩)
  refine ⟨_, _, _, ?_, hw.alloc (.cells #[] e) (e := entOwn enc m e (some ⟨w.heap.size, 0, none⟩) 0 []) (fun _ h => h) ?_, _, rfl, rfl⟩
  · have e0 : (Array.range 0).map (fun _ => (default : Value)) = #[] := by simp [Array.range]
    simp [execOp, Instr.buildSlice, run_underlying hs.und, hs.size w, Instr.fill, newRow, e0]
  · show Own enc m e _ 0 (.slice (some ⟨w.heap.size, 0, none⟩) ([] : List α).length 0) []
    exact ⟨by simp, .inr ⟨w.heap.size, 0, #[], rfl, Nat.zero_le _, Blk.new _ _ _, Nat.le_refl _, by simp [maxLen], by simp, by simp⟩⟩
end

/-! results that lie in memory -/
section
variable {P : Program} {C : Ctx} {E : Slots} {S : List Ent}
inductive ResIs (P : Program) (C : Ctx) (E : Slots) (S : List Ent) : List ResultVar → List Value → Prop
  | nil : ResIs P C E S [] []
  | tmp {t : Nat} {v : Value} {r : List ResultVar} {vs : List Value} (hv : look t E = some v) (h : ResIs P C E S r vs) : ResIs P C E S (.tmp t :: r) (v :: vs)
  | cell {a t : Nat} {ad : Addr} {v : Value} {r : List ResultVar} {vs : List Value} (ha : look a E = some (.pointer (some ad))) (hl : Lds P C S t ad v) (h : ResIs P C E S r vs) : ResIs P C E S (.cell a t :: r) (v :: vs)
theorem results_is {fn : Func} {rs : List ResultVar} {vs : List Value} {a : Act} {w : World} (hfn : fn.results = rs.toArray) (ha : Env C.n a E) (hw : Mem C w S) (h : ResIs P C E S rs vs) : (results fn a.tmps).run P w = .ok (resVal vs) w := by
  have key : (rs.mapM (resG a.tmps)).run P w = .ok vs w := by
    induction h generalizing fn with
    | nil => simp
    | @tmp t v r vs hv _ ih =>
      have := ha.2.2 t v hv
      simp [List.mapM_cons, ih (fn := { fn with results := r.toArray }) rfl, resG, this]
    | @cell a' t ad v r vs hv hl _ ih =>
      have := ha.2.2 a' _ hv
      have h1 : (asAddr (Value.pointer (some ad))).run P w = .ok ad w := rfl
      simp [List.mapM_cons, ih (fn := { fn with results := r.toArray }) rfl, resG, this, h1, hl w hw]
  have e : results fn a.tmps = (do let vs ← fn.results.mapM (resG a.tmps); pure (if h : vs.size = 1 then vs[0] else .tuple vs)) := rfl
  rw [e, hfn]
  simp only [Array.mapM_eq_mapM_toList, Sem.run_bind, Sem.run_map, key]
  match vs with
  | [] => simp [resVal]
  | [v] => simp [resVal]
  | u :: v :: vs => simp [resVal]
theorem At_retM {fn : Func} {R : Ending → World → Prop} {rs : List ResultVar} {vs : List Value} (hfn : fn.results = rs.toArray) (hr : ResIs P C E S rs vs) (h : ∀ w, Mem C w S → R (.returned (resVal vs)) w) : At C (bodyPost P fn R .ret) E S :=
  ⟨fun a w ha hw => ⟨ha.1, _, results_is hfn ha hw hr, h w hw⟩⟩
end

end Go.Proofs.Ytnflkmjfhbfekaa
