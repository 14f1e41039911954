/- Regions that draw their order: one walk, in an order of one's own choosing. No condition. -/
import Derived.Test.YtppicbdaijiifaaT4
import Derived.OrdersHeld
set_option linter.unusedSimpArgs false
set_option linter.unusedVariables false
set_option linter.unusedSectionVars false
set_option linter.unnecessarySimpa false
namespace Go.Proofs.Ytppicbdaijiifaa
open Go.RowKit

section
variable {P : Program} {ops : Array Oper} {Q : Exit → Act → World → Prop}
def closedL (ops : Array Oper) (L : Array Bool) : Prop := ∀ j oj, ops[j]? = some oj → L.getD j false = true → ∀ ed ∈ oj.after, Region.binds .any ed = true → L.getD ed.on false = true
def waitsT (ops : Array Oper) : Nat → Nat → Nat → Bool
  | 0, _, _ => false
  | f + 1, e, i => match ops[e]? with
    | some oe => oe.after.any fun ed => Region.binds .any ed && (ed.on == i || waitsT ops f ed.on i)
    | none => false
theorem waitsT_listed {L : Array Bool} (hc : closedL ops L) {i : Nat} : ∀ (f e : Nat), waitsT ops f e i = true → L.getD e false = true → L.getD i false = true
  | 0, _, h, _ => by cases h
  | f + 1, e, h, hl => by
    unfold waitsT at h
    split at h
    · rename_i oe hoe
      obtain ⟨ed, he, hb⟩ := Array.any_eq_true'.1 h
      simp only [Bool.and_eq_true, Bool.or_eq_true, beq_iff_eq] at hb
      have h1 := hc e oe hoe hl ed he hb.1
      rcases hb.2 with h2 | h2
      · rw [← h2]; exact h1
      · exact waitsT_listed hc f ed.on h2 h1
    · cases h
theorem closedL.set {L : Array Bool} (hc : closedL ops L) {i : Nat} (hi : i ∈ Region.ready .any ops L) : closedL ops (L.setIfInBounds i true) := by
  obtain ⟨_, oi, hoi, hall⟩ := mem_ready.1 hi
  intro j oj hj hl ed he hb
  by_cases hij : i = j
  · subst hij
    obtain rfl : oj = oi := Option.some.inj (hj.symm.trans hoi)
    exact getD_set_true (hall ed he hb)
  · rw [getD_set_ne false hij] at hl
    exact getD_set_true (hc j oj hj hl ed he hb)
theorem getD_false_of_true {L : Array Bool} {i : Nat} (h : L.getD i true = false) : L.getD i false = false := by
  rcases Nat.lt_or_ge i L.size with h' | h'
  · simp [h'] at h ⊢; exact h
  · simp [Array.getElem?_eq_none h'] at h

/-- whatever order is picked; behind each operation B holds, and F till number e has come up -/
def wpAnyG (P : Program) (ops : Array Oper) (Q : Exit → Act → World → Prop) (e : Nat) (B F : World → Prop) : Nat → Array Bool → Act → World → Prop
  | 0, L, a, w => Region.ready .any ops L = [] ∧ Q .normal a w
  | n + 1, L, a, w => (Region.ready .any ops L = [] → Q .normal a w) ∧
    ∀ i ∈ Region.ready .any ops L, wpOp P ops Q i (fun a' w' => (B w' ∧ ((L.setIfInBounds i true).getD e false = false → F w')) ∧ wpAnyG P ops Q e B F n (L.setIfInBounds i true) a' w') a w
variable {e : Nat} {B F : World → Prop}
theorem wpAny_of_G : ∀ (n : Nat) (L : Array Bool) (a : Act) (w : World), wpAnyG P ops Q e B F n L a w → wpAny P .any ops Q n L a w
  | 0, _, _, _, h => h
  | n + 1, _, _, _, h => ⟨h.1, fun i hi => wpOp_mono (fun a' w' h' => wpAny_of_G n _ a' w' h'.2) (h.2 i hi)⟩
/-- an operation that yields its value in every world that may be met ahead of it may be taken first -/
theorem wpAnyG_first {i : Nat} {oi : Oper} {v : Value} (hi : ops[i]? = some oi) (hsel : Region.noSelect ops = true) (hie : i ≠ e) (G : World → Prop)
    (hG : ∀ (L : Array Bool) w, L.size = ops.size → closedL ops L → L.getD i false = false → B w → (L.getD e false = false → F w) → G w)
    (hQ : ∀ c a w, Q (.panic c) (a.put oi.dst v) w → Q (.panic c) a w) :
    ∀ (n : Nat) (L : Array Bool) (a : Act) (w : World), L.size = ops.size → closedL ops L → B w → (L.getD e false = false → F w) →
      (∀ j oj, ops[j]? = some oj → j ≠ i → L.getD j true = false → (∀ ed ∈ oj.after, Region.binds .any ed = true → ed.on ≠ i) → oi.apart ops oj = true) →
      i ∈ Region.ready .any ops L → YieldsIf P ops G oi v a →
      wpAnyG P ops Q e B F n (L.setIfInBounds i true) (a.put oi.dst v) w → wpAnyG P ops Q e B F (n + 1) L a w := by
  intro n
  induction n with
  | zero =>
    intro L a w hz hc hB hF _ hr hy H
    have hGw : G w := hG L w hz hc (getD_false_of_true (mem_ready.1 hr).1) hB hF
    refine ⟨fun h => (by rw [h] at hr; cases hr), fun j hj => ?_⟩
    by_cases hji : j = i
    · subst hji
      exact hy.wpOp hi hGw ⟨⟨hB, fun h => hF (by rwa [getD_set_ne false hie] at h)⟩, H⟩
    · have := ready_mono hj hji
      rw [H.1] at this
      cases this
  | succ n ih =>
    intro L a w hz hc hB hF hfree hr hy H
    have hGw : G w := hG L w hz hc (getD_false_of_true (mem_ready.1 hr).1) hB hF
    refine ⟨fun h => (by rw [h] at hr; cases hr), fun j hj => ?_⟩
    by_cases hji : j = i
    · subst hji
      exact hy.wpOp hi hGw ⟨⟨hB, fun h => hF (by rwa [getD_set_ne false hie] at h)⟩, H⟩
    · have h1 := H.2 j (ready_mono hj hji)
      obtain ⟨hjun, oj, hoj, hall⟩ := mem_ready.1 hj
      have hnot : ∀ ed ∈ oj.after, Region.binds .any ed = true → ed.on ≠ i := fun ed he hb heq => by
        have h1 := hall ed he hb
        have h0 := (mem_ready.1 hr).1
        rw [heq] at h1
        rcases Nat.lt_or_ge i L.size with h' | h'
        · simp [h'] at h0 h1; rw [h0] at h1; cases h1
        · simp [Array.getElem?_eq_none h'] at h1
      have h2 := wpOp_putIf hoj (hfree j oj hoj hji hjun hnot) (fun cs b => Region.noSelect_spec hsel i oi cs b hi) (fun cs b => Region.noSelect_spec hsel j oj cs b hoj) hQ hy h1
      have hfree' : ∀ k ok, ops[k]? = some ok → k ≠ i → (L.setIfInBounds j true).getD k true = false →
          (∀ ed ∈ ok.after, Region.binds .any ed = true → ed.on ≠ i) → oi.apart ops ok = true := fun k ok hk hki hun hno => by
        refine hfree k ok hk hki ?_ hno
        by_cases hjk : j = k
        · subst hjk; exact hjun
        · rw [getD_set_ne true hjk] at hun; exact hun
      refine wpOp_mono (fun a' w' h3 => ?_) h2
      obtain ⟨hy', ⟨hB', hF'⟩, hK⟩ := h3
      rw [Array.setIfInBounds_comm _ _ (Ne.symm hji)] at hF' hK
      have hF2 : (L.setIfInBounds j true).getD e false = false → F w' := fun h => hF' (by rw [getD_set_ne false hie]; exact h)
      exact ⟨⟨hB', hF2⟩, ih (L.setIfInBounds j true) a' w' (by simpa using hz) (hc.set hj) hB' hF2 hfree' (ready_mono hr (Ne.symm hji)) hy' hK⟩
theorem wpAnyG_alone {i n : Nat} {L : Array Bool} {a : Act} {w : World} (hr : Region.ready .any ops L = [i])
    (h : wpOp P ops Q i (fun a' w' => (B w' ∧ ((L.setIfInBounds i true).getD e false = false → F w')) ∧ wpAnyG P ops Q e B F n (L.setIfInBounds i true) a' w') a w) : wpAnyG P ops Q e B F (n + 1) L a w :=
  ⟨fun h0 => (by rw [hr] at h0; cases h0), fun j hj => by
    rw [hr] at hj
    obtain rfl : j = i := by simpa using hj
    exact h⟩
end

/-- an order, or more than one: 0: reads nothing that may be written; 1: reads, ahead of number e; 2: acts, ahead of e; 3: acts, from e on -/
inductive OT where
  | nil : OT
  | step (m i : Nat) (r : OT) : OT
  | fork (x y : OT) : OT
inductive Tr where
  | nil : Tr
  | step (m i : Nat) (o : Oper) (r : Tr) : Tr
  | fork (x y : Tr) : Tr
def Tr.head : Tr → Option Oper
  | .step _ _ o _ => some o
  | _ => none
def OT.seq : List (Nat × Nat) → OT → OT
  | [], t => t
  | (m, i) :: r, t => .step m i (OT.seq r t)
def nthO : List Oper → Nat → Option Oper
  | [], _ => none
  | o :: _, 0 => some o
  | _ :: l, i + 1 => nthO l i
theorem nthO_eq : ∀ (l : List Oper) (i : Nat), l[i]? = nthO l i
  | [], i => by simp [nthO]
  | o :: l, 0 => by simp [nthO]
  | o :: l, i + 1 => by simpa [nthO] using nthO_eq l i
def picks (l : List Oper) : OT → Option Tr
  | .nil => some .nil
  | .step m i r => match nthO l i, picks l r with
    | some o, some t => some (.step m i o t)
    | _, _ => none
  | .fork x y => match picks l x, picks l y with
    | some a, some b => some (.fork a b)
    | _, _ => none
def Tr.ok (l : List Oper) : Tr → Prop
  | .nil => True
  | .step _ i o r => l[i]? = some o ∧ r.ok l
  | .fork x y => x.ok l ∧ y.ok l
def Tr.bare : Tr → OT
  | .nil => .nil
  | .step m i _ r => .step m i r.bare
  | .fork x y => .fork x.bare y.bare
theorem picks_spec {l : List Oper} : ∀ {r : OT} {t : Tr}, picks l r = some t → t.ok l ∧ t.bare = r
  | .nil, t, h => by cases h; exact ⟨trivial, rfl⟩
  | .step m i r, t, h => by
    simp only [picks] at h
    split at h
    · rename_i o t' ho ht
      cases h
      obtain ⟨h1, h2⟩ := picks_spec ht
      exact ⟨⟨by rw [nthO_eq]; exact ho, h1⟩, by simp [Tr.bare, h2]⟩
    · cases h
  | .fork x y, t, h => by
    simp only [picks] at h
    split at h
    · rename_i a b ha hb
      cases h
      obtain ⟨h1, h2⟩ := picks_spec ha
      obtain ⟨h3, h4⟩ := picks_spec hb
      exact ⟨⟨h1, h3⟩, by simp [Tr.bare, h2, h4]⟩
    · cases h
def OT.heads : OT → List Nat
  | .nil => []
  | .step _ i _ => [i]
  | .fork x y => x.heads ++ y.heads
def OT.depth : OT → Nat
  | .nil => 0
  | .step _ _ r => r.depth + 1
  | .fork x y => max x.depth y.depth
/-- every order that may come is looked at; inF: this is one arm of a fork -/
def ordOk (e : Nat) (ops : Array Oper) : Bool → Array Bool → OT → Bool
  | false, L, .nil => (Region.ready .any ops L).isEmpty
  | true, _, .nil => false
  | inF, L, .step m i r => (match m with
      | 0 => !inF && (Region.ready .any ops L).contains i && Region.free .any ops L i && !(i == e)
      | 1 => !inF && (Region.ready .any ops L).contains i && Region.free .any ops L i && !(i == e) && (decide (ops.size ≤ e) || waitsT ops ops.size e i)
      | 2 => (inF || decide (Region.ready .any ops L = [i])) && !(i == e)
      | _ => (inF || decide (Region.ready .any ops L = [i])) && ((L.setIfInBounds i true).getD e false)) && ordOk e ops false (L.setIfInBounds i true) r
  | inF, L, .fork x y => (inF || (!(Region.ready .any ops L).isEmpty && (Region.ready .any ops L).all fun j => (x.heads ++ y.heads).contains j)) && ordOk e ops true L x && ordOk e ops true L y
def flagsOk (e : Nat) : Array Bool → OT → Bool
  | _, .nil => true
  | L, .step m i r => (match m with
      | 0 => !(i == e)
      | 1 => !(i == e)
      | 2 => !(i == e)
      | _ => (L.setIfInBounds i true).getD e false) && flagsOk e (L.setIfInBounds i true) r
  | L, .fork x y => flagsOk e L x && flagsOk e L y
theorem flags_of_ord {e : Nat} {ops : Array Oper} : ∀ {t : OT} {b : Bool} {L : Array Bool}, ordOk e ops b L t = true → flagsOk e L t = true
  | .nil, _, _, _ => rfl
  | .step m i r, b, L, h => by
    unfold ordOk at h
    match m with
    | 0 =>
      simp only [Bool.and_eq_true] at h
      simp only [flagsOk, Bool.and_eq_true]
      exact ⟨h.1.2, flags_of_ord h.2⟩
    | 1 =>
      simp only [Bool.and_eq_true] at h
      simp only [flagsOk, Bool.and_eq_true]
      exact ⟨h.1.1.2, flags_of_ord h.2⟩
    | 2 =>
      simp only [Bool.and_eq_true] at h
      simp only [flagsOk, Bool.and_eq_true]
      exact ⟨h.1.2, flags_of_ord h.2⟩
    | m + 3 =>
      simp only [Bool.and_eq_true] at h
      simp only [flagsOk, Bool.and_eq_true]
      exact ⟨h.1.2, flags_of_ord h.2⟩
  | .fork x y, b, L, h => by
    unfold ordOk at h
    simp only [Bool.and_eq_true] at h
    simp only [flagsOk, Bool.and_eq_true]
    exact ⟨flags_of_ord h.1.2, flags_of_ord h.2⟩
/-- what the tree of orders says of a walk -/
def semD (P : Program) (ops : Array Oper) (Q : Exit → Act → World → Prop) (e : Nat) (B F : World → Prop) : Tr → Array Bool → Act → World → Prop
  | .nil, _, a, w => Q .normal a w
  | .step m i o r, L, a, w => if m ≤ 1 then ∃ v, YieldsIf P ops (fun w => if m = 0 then B w else F w) o v a ∧ semD P ops Q e B F r (L.setIfInBounds i true) (a.put o.dst v) w
      else wpOp P ops Q i (fun a' w' => (B w' ∧ ((L.setIfInBounds i true).getD e false = false → F w')) ∧ semD P ops Q e B F r (L.setIfInBounds i true) a' w') a w
  | .fork x y, L, a, w => semD P ops Q e B F x L a w ∧ semD P ops Q e B F y L a w
section
variable {P : Program} {ops : Array Oper} {Q : Exit → Act → World → Prop} {e : Nat} {B F : World → Prop}
theorem ready_lt {L : Array Bool} {i : Nat} (h : i ∈ Region.ready .any ops L) : ∃ oi, ops[i]? = some oi := by
  obtain ⟨_, oi, hoi, _⟩ := mem_ready.1 h
  exact ⟨oi, hoi⟩
theorem any_of_sem (hsel : Region.noSelect ops = true) (hQ : ∀ c a (dst : Option Tmp) v w, Q (.panic c) (a.put dst v) w → Q (.panic c) a w) : ∀ (t : Tr) (b : Bool) (L : Array Bool) (a : Act) (w : World) (n : Nat), t.ok ops.toList → ordOk e ops b L t.bare = true → t.bare.depth ≤ n → L.size = ops.size → closedL ops L → B w → (L.getD e false = false → F w) → semD P ops Q e B F t L a w →
    (b = false → wpAnyG P ops Q e B F n L a w) ∧ (b = true → 0 < n ∧ ∀ j ∈ t.bare.heads, j ∈ Region.ready .any ops L → wpOp P ops Q j (fun a' w' => (B w' ∧ ((L.setIfInBounds j true).getD e false = false → F w')) ∧ wpAnyG P ops Q e B F (n - 1) (L.setIfInBounds j true) a' w') a w) := by
  intro t
  induction t with
  | nil =>
    intro b L a w n _ hord _ _ _ _ _ hs
    cases b with
    | true => simp [Tr.bare, ordOk] at hord
    | false =>
      have hr : Region.ready .any ops L = [] := by simpa [Tr.bare, ordOk] using hord
      refine ⟨fun _ => ?_, fun h => by cases h⟩
      cases n with
      | zero => exact ⟨hr, hs⟩
      | succ n => exact ⟨fun _ => hs, fun i hi => by rw [hr] at hi; cases hi⟩
  | step m i o r ih =>
    intro b L a w n hok hord hd hz hc hB hF hs
    obtain ⟨hok1, hok2⟩ := hok
    have hi : ops[i]? = some o := by simpa using hok1
    simp only [Tr.bare, OT.depth] at hd
    obtain ⟨n, rfl⟩ : ∃ k, n = k + 1 := ⟨n - 1, by omega⟩
    have hz' : (L.setIfInBounds i true).size = ops.size := by simpa using hz
    by_cases hm : m ≤ 1
    · have key : b = false ∧ (Region.ready .any ops L).contains i = true ∧ Region.free .any ops L i = true ∧ i ≠ e ∧ (m = 1 → ops.size ≤ e ∨ waitsT ops ops.size e i = true) ∧ ordOk e ops false (L.setIfInBounds i true) r.bare = true := by
        have : m = 0 ∨ m = 1 := by omega
        rcases this with rfl | rfl
        · simp only [Tr.bare, ordOk, Bool.and_eq_true, Bool.not_eq_true', beq_eq_false_iff_ne] at hord
          exact ⟨hord.1.1.1.1, hord.1.1.1.2, hord.1.1.2, hord.1.2, by simp, hord.2⟩
        · simp only [Tr.bare, ordOk, Bool.and_eq_true, Bool.not_eq_true', beq_eq_false_iff_ne, Bool.or_eq_true, decide_eq_true_eq] at hord
          exact ⟨hord.1.1.1.1.1, hord.1.1.1.1.2, hord.1.1.1.2, hord.1.1.2, fun _ => hord.1.2, hord.2⟩
      obtain ⟨rfl, k1, k2, k3, k4, k5⟩ := key
      refine ⟨fun _ => ?_, fun h => by cases h⟩
      simp only [semD, if_pos hm] at hs
      obtain ⟨v, hy, hs⟩ := hs
      have hr : i ∈ Region.ready .any ops L := by simpa using k1
      refine wpAnyG_first hi hsel k3 (fun w => if m = 0 then B w else F w) (fun L' w' hz' hc' hL' hB' hF' => ?_) (fun c a w h => hQ c _ _ _ w h) n L a w hz hc hB hF (Region.free_spec hi k2) hr hy
        ((ih false _ _ w n hok2 k5 (by omega) hz' (hc.set hr) hB (fun h => hF (by rwa [getD_set_ne false k3] at h)) hs).1 rfl)
      by_cases hm0 : m = 0
      · rw [if_pos hm0]; exact hB'
      · rw [if_neg hm0]
        have hm1 : m = 1 := by omega
        refine hF' ?_
        cases he : L'.getD e false with
        | false => rfl
        | true =>
          rcases k4 hm1 with h1 | h1
          · have hn : L'[e]? = Option.none := Array.getElem?_eq_none (by omega)
            simp [hn] at he
          · have := waitsT_listed hc' _ _ h1 he
            rw [hL'] at this; cases this
    · have key : (b = true ∨ Region.ready .any ops L = [i]) ∧ ordOk e ops false (L.setIfInBounds i true) r.bare = true := by
        match m, hm with
        | 2, _ =>
          simp only [Tr.bare, ordOk, Bool.and_eq_true, Bool.or_eq_true, decide_eq_true_eq] at hord
          exact ⟨hord.1.1, hord.2⟩
        | m + 3, _ =>
          simp only [Tr.bare, ordOk, Bool.and_eq_true, Bool.or_eq_true, decide_eq_true_eq] at hord
          exact ⟨hord.1.1, hord.2⟩
      obtain ⟨k1, k2⟩ := key
      simp only [semD, if_neg hm] at hs
      have step : i ∈ Region.ready .any ops L → wpOp P ops Q i (fun a' w' => (B w' ∧ ((L.setIfInBounds i true).getD e false = false → F w')) ∧ wpAnyG P ops Q e B F n (L.setIfInBounds i true) a' w') a w := fun hr =>
        wpOp_mono (fun a' w' ⟨⟨hB', hF'⟩, hs'⟩ => ⟨⟨hB', hF'⟩, (ih false _ a' w' n hok2 k2 (by omega) hz' (hc.set hr) hB' hF' hs').1 rfl⟩) hs
      refine ⟨fun hb => ?_, fun hb => ⟨by omega, fun j hj hr => ?_⟩⟩
      · have hr1 : Region.ready .any ops L = [i] := k1.resolve_left (by rw [hb]; decide)
        exact wpAnyG_alone hr1 (step (by rw [hr1]; simp))
      · obtain rfl : j = i := by simpa [Tr.bare, OT.heads] using hj
        exact step hr
  | fork x y ihx ihy =>
    intro b L a w n hok hord hd hz hc hB hF hs
    simp only [Tr.bare, ordOk, Bool.and_eq_true, Bool.or_eq_true] at hord
    simp only [Tr.bare, OT.depth] at hd
    have hx := ihx true L a w n hok.1 hord.1.2 (by omega) hz hc hB hF hs.1
    have hy := ihy true L a w n hok.2 hord.2 (by omega) hz hc hB hF hs.2
    have h1 := hx.2 rfl
    have h2 := hy.2 rfl
    have all : ∀ j ∈ x.bare.heads ++ y.bare.heads, j ∈ Region.ready .any ops L → wpOp P ops Q j (fun a' w' => (B w' ∧ ((L.setIfInBounds j true).getD e false = false → F w')) ∧ wpAnyG P ops Q e B F (n - 1) (L.setIfInBounds j true) a' w') a w := fun j hj hr => by
      rcases List.mem_append.1 hj with hj | hj
      · exact h1.2 j hj hr
      · exact h2.2 j hj hr
    refine ⟨fun hb => ?_, fun _ => ⟨h1.1, all⟩⟩
    rcases hord.1.1 with h | h
    · rw [hb] at h; cases h
    · obtain ⟨k, rfl⟩ : ∃ k, n = k + 1 := ⟨n - 1, by omega⟩
      simp only [Bool.not_eq_true', List.isEmpty_eq_false_iff, List.all_eq_true] at h
      exact ⟨fun h0 => absurd h0 h.1, fun i hi => all i (by simpa using h.2 i hi) hi⟩
end

structure TD (P : Program) (C : Ctx) (l : List Oper) (Q : Exit → Act → World → Prop) (e : Nat) (S0 : List Ent) (t : Tr) (E : Slots) (S : List Ent) : Prop where
  run : ∀ (L : Array Bool) a w, t.ok l → flagsOk e L t.bare = true → Env C.n a E → Mem C w S → (L.getD e false = false → Mem C w S0) → semD P l.toArray Q e (fun w => Mem C w []) (fun w => Mem C w S0) t L a w

section
variable {P : Program} {C : Ctx} {Q : Exit → Act → World → Prop} {e : Nat} {S0 S : List Ent} {E : Slots} {l : List Oper} {t : Tr}
variable {d ty i : Nat} {ps : String} {af : Array Edge} {op : Op} {v : Value}
/-- where a panic would go, the frame is not looked at -/
def Blind (Q : Exit → Act → World → Prop) : Prop := ∀ c a (dst : Option Tmp) v w, Q (.panic c) (a.put dst v) w → Q (.panic c) a w
theorem Mem.none {w : World} (h : Mem C w S) : Mem C w [] := h.sub (List.nil_sublist _)
/-- what is held throughout is S0 -/
theorem T_drawS {id : Nat} (S0 : List Ent) (e : Nat) (order : OT) {t : Tr} (hS : S0.Sublist S) (hm : P.follows .mixedOrders = true) (hp : picks l order = some t)
    (hB : (Region.noSelect l.toArray && Nat.ble order.depth l.length && ordOk e l.toArray false (Array.replicate l.length false) order) = true) (hb : Blind Q) (h : TD P C l Q e S0 t E S) : T P C (.region id l.toArray true) Q E S := by
  refine ⟨fun a w ha hw => ?_⟩
  simp only [Bool.and_eq_true] at hB
  obtain ⟨⟨hsel, hlen⟩, hord⟩ := hB
  have hlen' := Nat.le_of_ble_eq_true hlen
  obtain ⟨h1, h2⟩ := picks_spec hp
  refine wp_region_any hm ?_
  have hF : (Array.replicate l.length false).getD e false = false → Mem C w.drew S0 := fun _ => hw.drew.sub hS
  have := (any_of_sem hsel hb t false (Array.replicate l.length false) a w.drew l.length (by simpa using h1) (by rw [h2]; exact hord) (by rw [h2]; exact hlen') (by simp) (fun j oj _ hl => by
      exfalso
      rcases Nat.lt_or_ge j l.length with h | h
      · simp [h] at hl
      · simp [h] at hl) hw.drew.none hF (h.run _ a w.drew h1 (by rw [h2]; exact flags_of_ord hord) ha hw.drew hF)).1 rfl
  have := wpAny_of_G _ _ _ _ this
  simpa using this
theorem T_draw {id : Nat} (e : Nat) (order : OT) {t : Tr} (hm : P.follows .mixedOrders = true) (hp : picks l order = some t)
    (hB : (Region.noSelect l.toArray && Nat.ble order.depth l.length && ordOk e l.toArray false (Array.replicate l.length false) order) = true) (hb : Blind Q) (h : TD P C l Q e S t E S) : T P C (.region id l.toArray true) Q E S :=
  T_drawS S e order (List.Sublist.refl _) hm hp hB hb h
theorem TD_nil (h : At C (Q .normal) E S) : TD P C l Q e S0 .nil E S :=
  ⟨fun L a w _ _ ha hw _ => h.run a w ha hw⟩
theorem TD_fork {x y : Tr} (hx : TD P C l Q e S0 x E S) (hy : TD P C l Q e S0 y E S) : TD P C l Q e S0 (.fork x y) E S :=
  ⟨fun L a w hok hfl ha hw hF => by
    simp only [Tr.bare, flagsOk, Bool.and_eq_true] at hfl
    exact ⟨hx.run L a w hok.1 hfl.1 ha hw hF, hy.run L a w hok.2 hfl.2 ha hw hF⟩⟩
theorem TD_take {m : Nat} {o : Oper} (hmode : m = 0 ∨ m = 1) {E' : Slots}
    (hy : ∀ a, Env C.n a E → YieldsIf P l.toArray (fun w => if m = 0 then Mem C w [] else Mem C w S0) o v a ∧ Env C.n (a.put o.dst v) E') (h : TD P C l Q e S0 t E' S) : TD P C l Q e S0 (.step m i o t) E S := by
  refine ⟨fun L a w hok hfl ha hw hF => ?_⟩
  obtain ⟨hy1, hy2⟩ := hy a ha
  have key : i ≠ e ∧ flagsOk e (L.setIfInBounds i true) t.bare = true := by
    rcases hmode with rfl | rfl
    · simp only [Tr.bare, flagsOk, Bool.and_eq_true, Bool.not_eq_true', beq_eq_false_iff_ne] at hfl
      exact hfl
    · simp only [Tr.bare, flagsOk, Bool.and_eq_true, Bool.not_eq_true', beq_eq_false_iff_ne] at hfl
      exact hfl
  simp only [semD]
  rw [if_pos (by omega)]
  exact ⟨v, hy1, h.run _ _ w hok.2 key.2 hy2 hw (fun h => hF (by rwa [getD_set_ne false key.1] at h))⟩
theorem yIf {G : World → Prop} {o : Oper} {a : Act} {dst : Option Tmp} {g : Option (Nat × Bool)} (ho : o = ⟨dst, op, ty, ps, af, g⟩) (hw : Region.wanted o (yielded l.toArray a.tmps) = true)
    (hr : ∀ w, G w → (execOp a.eval ⟨dst, op, ty, ps, af, g⟩).run P w = .ok (.value v) w) : YieldsIf P l.toArray G o v a := .inl ⟨hw, fun w h => by rw [ho]; exact hr w h⟩
/-! what is taken first -/
theorem TD_q0 (hq : QS P C E [] op ty v) (hd : Nat.ble (d + 1) C.n = true) (h : TD P C l Q e S0 t ((d, v) :: E) S) : TD P C l Q e S0 (.step 0 i ⟨some d, op, ty, ps, af, none⟩ t) E S :=
  TD_take (v := v) (.inl rfl) (fun a ha => ⟨yIf rfl (by simp [Region.wanted]) (fun w hw => hq _ _ _ _ a w ha (by simpa using hw)), ha.put hd v⟩) h
theorem TD_q1 (hq : QS P C E S0 op ty v) (hd : Nat.ble (d + 1) C.n = true) (h : TD P C l Q e S0 t ((d, v) :: E) S) : TD P C l Q e S0 (.step 1 i ⟨some d, op, ty, ps, af, none⟩ t) E S :=
  TD_take (v := v) (.inr rfl) (fun a ha => ⟨yIf rfl (by simp [Region.wanted]) (fun w hw => hq _ _ _ _ a w ha (by simpa using hw)), ha.put hd v⟩) h
section
variable {j k : Nat} {b want : Bool}
theorem wanted_yes {a : Act} {o : Oper} (ha : Env C.n a E) (ho : o.guard = some (j, want)) (hj : dstAt l j = some k) (hk : look k E = some (.bool b)) (hb : b = want) : Region.wanted o (yielded l.toArray a.tmps) = true := by
  simp only [Region.wanted, ho, yielded_at ha hj hk, hb]; simp
theorem wanted_no {a : Act} {o : Oper} (ha : Env C.n a E) (ho : o.guard = some (j, want)) (hj : dstAt l j = some k) (hk : look k E = some (.bool b)) (hb : b = !want) : Region.wanted o (yielded l.toArray a.tmps) = false := by
  simp only [Region.wanted, ho, yielded_at ha hj hk, hb]; cases want <;> rfl
theorem wanted_undef {a : Act} {o : Oper} (ha : Env C.n a E) (ho : o.guard = some (j, want)) (hj : dstAt l j = some k) (hk : look k E = some undef) : Region.wanted o (yielded l.toArray a.tmps) = false := by
  simp only [Region.wanted, ho, yielded_undef ha hj hk]; rfl
theorem TD_q0y (hj : dstAt l j = some k) (hk : look k E = some (.bool b)) (hb : b = want) (hq : QS P C E [] op ty v) (hd : Nat.ble (d + 1) C.n = true) (h : TD P C l Q e S0 t ((d, v) :: E) S) : TD P C l Q e S0 (.step 0 i ⟨some d, op, ty, ps, af, some (j, want)⟩ t) E S :=
  TD_take (v := v) (.inl rfl) (fun a ha => ⟨yIf rfl (wanted_yes ha rfl hj hk hb) (fun w hw => hq _ _ _ _ a w ha (by simpa using hw)), ha.put hd v⟩) h
theorem TD_q1y (hj : dstAt l j = some k) (hk : look k E = some (.bool b)) (hb : b = want) (hq : QS P C E S0 op ty v) (hd : Nat.ble (d + 1) C.n = true) (h : TD P C l Q e S0 t ((d, v) :: E) S) : TD P C l Q e S0 (.step 1 i ⟨some d, op, ty, ps, af, some (j, want)⟩ t) E S :=
  TD_take (v := v) (.inr rfl) (fun a ha => ⟨yIf rfl (wanted_yes ha rfl hj hk hb) (fun w hw => hq _ _ _ _ a w ha (by simpa using hw)), ha.put hd v⟩) h
theorem TD_no {m : Nat} (hm : Nat.ble m 1 = true) (hj : dstAt l j = some k) (hk : look k E = some (.bool b)) (hb : b = !want) (hd : Nat.ble (d + 1) C.n = true) (h : TD P C l Q e S0 t ((d, undef) :: E) S) : TD P C l Q e S0 (.step m i ⟨some d, op, ty, ps, af, some (j, want)⟩ t) E S :=
  TD_take (v := undef) (by have := Nat.le_of_ble_eq_true hm; omega) (fun a ha => ⟨.inr ⟨wanted_no ha rfl hj hk hb, rfl⟩, ha.put hd undef⟩) h
theorem TD_noU {m : Nat} (hm : Nat.ble m 1 = true) (hj : dstAt l j = some k) (hk : look k E = some undef) (hd : Nat.ble (d + 1) C.n = true) (h : TD P C l Q e S0 t ((d, undef) :: E) S) : TD P C l Q e S0 (.step m i ⟨some d, op, ty, ps, af, some (j, want)⟩ t) E S :=
  TD_take (v := undef) (by have := Nat.le_of_ble_eq_true hm; omega) (fun a ha => ⟨.inr ⟨wanted_undef ha rfl hj hk, rfl⟩, ha.put hd undef⟩) h
theorem TD_guard {m : Nat} {dst : Option Tmp} (hj : dstAt l j = some k) (hk : look k E = some (.bool b))
    (h1 : b = true → TD P C l Q e S0 (.step m i ⟨dst, op, ty, ps, af, some (j, want)⟩ t) ((k, .bool true) :: E) S)
    (h0 : b = false → TD P C l Q e S0 (.step m i ⟨dst, op, ty, ps, af, some (j, want)⟩ t) ((k, .bool false) :: E) S) : TD P C l Q e S0 (.step m i ⟨dst, op, ty, ps, af, some (j, want)⟩ t) E S := by
  refine ⟨fun L a w hok hfl ha hw hF => ?_⟩
  cases hbb : b
  · exact (h0 hbb).run L a w hok hfl (ha.same hk (by rw [hbb])) hw hF
  · exact (h1 hbb).run L a w hok hfl (ha.same hk (by rw [hbb])) hw hF
end
/-! what acts, alone -/
theorem TD_act {m : Nat} {o : Oper} (hm : 2 ≤ m)
    (hy : ∀ a w (K : Act → World → Prop), Env C.n a E → Mem C w S → (∀ a' w' E' S', TD P C l Q e S0 t E' S' → Env C.n a' E' → Mem C w' S' → (m = 2 → Mem C w S0 → Mem C w' S0) → K a' w') →
      if Region.wanted o (yielded l.toArray a.tmps) then o.wp P a w K Q ∨ (o.asks P a w ∧ LetsOut Q) else K (a.put o.dst undef) w) : TD P C l Q e S0 (.step m i o t) E S := by
  refine ⟨fun L a w hok hfl ha hw hF => ?_⟩
  have hi : l.toArray[i]? = some o := by simpa using hok.1
  have key : (m = 2 → i ≠ e) ∧ (m ≠ 2 → (L.setIfInBounds i true).getD e false = true) ∧ flagsOk e (L.setIfInBounds i true) t.bare = true := by
    match m, hm with
    | 2, _ =>
      simp only [Tr.bare, flagsOk, Bool.and_eq_true, Bool.not_eq_true', beq_eq_false_iff_ne] at hfl
      exact ⟨fun _ => hfl.1, fun h => absurd rfl h, hfl.2⟩
    | m + 3, _ =>
      simp only [Tr.bare, flagsOk, Bool.and_eq_true] at hfl
      exact ⟨fun h => absurd h (by omega), fun _ => hfl.1, hfl.2⟩
  obtain ⟨k2, k3, k4⟩ := key
  simp only [semD]
  rw [if_neg (by omega)]
  unfold wpOp
  rw [hi]
  refine hy a w _ ha hw (fun a' w' E' S' htd ha' hw' hkeep => ?_)
  have hF' : (L.setIfInBounds i true).getD e false = false → Mem C w' S0 := fun h => by
    by_cases h2 : m = 2
    · exact hkeep h2 (hF (by rwa [getD_set_ne false (k2 h2)] at h))
    · rw [k3 h2] at h; cases h
  exact ⟨⟨hw'.none, hF'⟩, htd.run _ a' w' hok.2 k4 ha' hw' hF'⟩
theorem TD_e2 {o : Oper} {N : Slots → List Ent → Prop} (he : ES P C E S o N) (hg : o.guard = none) (h : ∀ E' S', N E' S' → S0.Sublist S' ∧ TD P C l Q e S0 t E' S') : TD P C l Q e S0 (.step 2 i o t) E S :=
  TD_act (by omega) fun a w K ha hw hK => by
    rw [if_pos (by simp [Region.wanted, hg])]
    exact .inl (he a w K Q ha hw fun a' w' E' S' hN ha' hw' => hK a' w' E' S' (h E' S' hN).2 ha' hw' (fun _ _ => hw'.sub (h E' S' hN).1))
theorem TD_e3 {o : Oper} {N : Slots → List Ent → Prop} (he : ES P C E S o N) (hg : o.guard = none) (h : ∀ E' S', N E' S' → TD P C l Q e S0 t E' S') : TD P C l Q e S0 (.step 3 i o t) E S :=
  TD_act (by omega) fun a w K ha hw hK => by
    rw [if_pos (by simp [Region.wanted, hg])]
    exact .inl (he a w K Q ha hw fun a' w' E' S' hN ha' hw' => hK a' w' E' S' (h E' S' hN) ha' hw' (fun h => absurd h (by omega)))
theorem TD_q2 (hq : QS P C E S op ty v) (hd : Nat.ble (d + 1) C.n = true) (h : TD P C l Q e S0 t ((d, v) :: E) S) : TD P C l Q e S0 (.step 2 i ⟨some d, op, ty, ps, af, none⟩ t) E S :=
  TD_act (by omega) fun a w K ha hw hK => by
    rw [if_pos (by simp [Region.wanted])]
    refine .inl ?_
    unfold Oper.wp
    rw [hq _ _ _ _ a w ha hw]
    exact hK _ _ _ _ h (ha.put hd v) hw (fun _ h => h)
theorem TD_q3 (hq : QS P C E S op ty v) (hd : Nat.ble (d + 1) C.n = true) (h : TD P C l Q e S0 t ((d, v) :: E) S) : TD P C l Q e S0 (.step 3 i ⟨some d, op, ty, ps, af, none⟩ t) E S :=
  TD_e3 (ES_core (fun u S' => u = v ∧ S' = S) (fun a w ha hw => ⟨v, w, S, hq _ _ _ _ a w ha hw, hw, rfl, rfl⟩) hd) rfl (by rintro _ _ ⟨_, ⟨rfl, rfl⟩, rfl⟩; exact h)
section
variable {j k : Nat} {b want : Bool} {m : Nat}
theorem TD_e2y {dst : Option Tmp} {N : Slots → List Ent → Prop} (hj : dstAt l j = some k) (hk : look k E = some (.bool b)) (hb : b = want) (he : ES P C E S ⟨dst, op, ty, ps, af, some (j, want)⟩ N)
    (h : ∀ E' S', N E' S' → S0.Sublist S' ∧ TD P C l Q e S0 t E' S') : TD P C l Q e S0 (.step 2 i ⟨dst, op, ty, ps, af, some (j, want)⟩ t) E S :=
  TD_act (by omega) fun a w K ha hw hK => by
    rw [if_pos (wanted_yes ha rfl hj hk hb)]
    exact .inl (he a w K Q ha hw fun a' w' E' S' hN ha' hw' => hK a' w' E' S' (h E' S' hN).2 ha' hw' (fun _ _ => hw'.sub (h E' S' hN).1))
theorem TD_e3y {dst : Option Tmp} {N : Slots → List Ent → Prop} (hj : dstAt l j = some k) (hk : look k E = some (.bool b)) (hb : b = want) (he : ES P C E S ⟨dst, op, ty, ps, af, some (j, want)⟩ N)
    (h : ∀ E' S', N E' S' → TD P C l Q e S0 t E' S') : TD P C l Q e S0 (.step 3 i ⟨dst, op, ty, ps, af, some (j, want)⟩ t) E S :=
  TD_act (by omega) fun a w K ha hw hK => by
    rw [if_pos (wanted_yes ha rfl hj hk hb)]
    exact .inl (he a w K Q ha hw fun a' w' E' S' hN ha' hw' => hK a' w' E' S' (h E' S' hN) ha' hw' (fun h => absurd h (by omega)))
theorem TD_eno (hm : Nat.ble 2 m = true) (hj : dstAt l j = some k) (hk : look k E = some (.bool b)) (hb : b = !want) (hd : Nat.ble (d + 1) C.n = true) (h : TD P C l Q e S0 t ((d, undef) :: E) S) : TD P C l Q e S0 (.step m i ⟨some d, op, ty, ps, af, some (j, want)⟩ t) E S :=
  TD_act (Nat.le_of_ble_eq_true hm) fun a w K ha hw hK => by
    rw [if_neg (by rw [wanted_no ha rfl hj hk hb]; exact Bool.false_ne_true)]
    exact hK _ _ _ _ h (ha.put hd undef) hw (fun _ h => h)
theorem TD_enoU (hm : Nat.ble 2 m = true) (hj : dstAt l j = some k) (hk : look k E = some undef) (hd : Nat.ble (d + 1) C.n = true) (h : TD P C l Q e S0 t ((d, undef) :: E) S) : TD P C l Q e S0 (.step m i ⟨some d, op, ty, ps, af, some (j, want)⟩ t) E S :=
  TD_act (Nat.le_of_ble_eq_true hm) fun a w K ha hw hK => by
    rw [if_neg (by rw [wanted_undef ha rfl hj hk]; exact Bool.false_ne_true)]
    exact hK _ _ _ _ h (ha.put hd undef) hw (fun _ h => h)
end
/-! Blind posts -/
theorem Blind.seq {K : Act → World → Prop} (h : Blind Q) : Blind (Exit.then K Q) := h
theorem Blind.block {id : Nat} (h : Blind Q) : Blind (Exit.inBlock id Q) := h
theorem Blind.body {fn : Func} {R : Ending → World → Prop} : Blind (bodyPost P fn R) := fun c a dst v w h => by
  cases dst <;> exact h
end
end Go.Proofs.Ytppicbdaijiifaa
