/- Regions that draw their order: one walk, in an order of one's own choosing. No condition. -/
import Derived.Test.YtnbgcgpkpakicaaT4
import Derived.OrdersHeld
namespace Go.Proofs.Ytnbgcgpkpakicaa
open Go.RowKit

section
variable {P : Program} {ops : Array Oper} {Q : Exit → Act → World → Prop}
def closedL (ops : Array Oper) (L : Array Bool) : Prop := ∀ j oj, ops[j]? = some oj → L.getD j false = true → ∀ ed ∈ oj.after, Region.binds .any ed = true → L.getD ed.on false = true
def waitsT (ops : Array Oper) : Nat → Nat → Nat → Bool
  | 0, _, _ => false
  | f + 1, e, i => match ops[e]? with
    | some oe => oe.after.any fun ed => Region.binds .any ed && (ed.on == i || waitsT ops f ed.on i)
    | none => false
theorem waitsT_listed {L : Array Bool} (hc : closedL ops L) {i : Nat} : ∀ (f e : Nat), waitsT ops f e i = true → L.getD e false = true → L.getD i false = true
  | 0, _, h, _ => by cases h
  | f + 1, e, h, hl => by
    unfold waitsT at h
    split at h
    · rename_i oe hoe
      obtain ⟨ed, he, hb⟩ := Array.any_eq_true'.1 h
      simp only [Bool.and_eq_true, Bool.or_eq_true, beq_iff_eq] at hb
      have h1 := hc e oe hoe hl ed he hb.1
      rcases hb.2 with h2 | h2
      · rw [← h2]; exact h1
      · exact waitsT_listed hc f ed.on h2 h1
    · cases h
theorem closedL.set {L : Array Bool} (hc : closedL ops L) {i : Nat} (hi : i ∈ Region.ready .any ops L) : closedL ops (L.setIfInBounds i true) := by
  obtain ⟨_, oi, hoi, hall⟩ := mem_ready.1 hi
  intro j oj hj hl ed he hb
  by_cases hij : i = j
  · subst hij
    obtain rfl : oj = oi := Option.some.inj (hj.symm.trans hoi)
    exact getD_set_true (hall ed he hb)
  · rw [getD_set_ne false hij] at hl
    exact getD_set_true (hc j oj hj hl ed he hb)
theorem getD_false_of_true {L : Array Bool} {i : Nat} (h : L.getD i true = false) : L.getD i false = false := by
  rcases Nat.lt_or_ge i L.size with h' | h'
  · simp [h'] at h ⊢; exact h
  · simp [Array.getElem?_eq_none h'] at h

/-- whatever order is picked; behind each operation B holds, and F till number e has come up -/
def wpAnyG (P : Program) (ops : Array Oper) (Q : Exit → Act → World → Prop) (e : Nat) (B F : World → Prop) : Nat → Array Bool → Act → World → Prop
  | 0, L, a, w => Region.ready .any ops L = [] ∧ Q .normal a w
  | n + 1, L, a, w => (Region.ready .any ops L = [] → Q .normal a w) ∧
    ∀ i ∈ Region.ready .any ops L, wpOp P ops Q i (fun a' w' => (B w' ∧ ((L.setIfInBounds i true).getD e false = false → F w')) ∧ wpAnyG P ops Q e B F n (L.setIfInBounds i true) a' w') a w
variable {e : Nat} {B F : World → Prop}
theorem wpAny_of_G : ∀ (n : Nat) (L : Array Bool) (a : Act) (w : World), wpAnyG P ops Q e B F n L a w → wpAny P .any ops Q n L a w
  | 0, _, _, _, h => h
  | n + 1, _, _, _, h => ⟨h.1, fun i hi => wpOp_mono (fun a' w' h' => wpAny_of_G n _ a' w' h'.2) (h.2 i hi)⟩
/-- an operation that yields its value in every world that may be met ahead of it may be taken first -/
theorem wpAnyG_first {i : Nat} {oi : Oper} {v : Value} (hi : ops[i]? = some oi) (hsel : Region.noSelect ops = true) (hie : i ≠ e) (G : World → Prop)
    (hG : ∀ (L : Array Bool) w, L.size = ops.size → closedL ops L → L.getD i false = false → B w → (L.getD e false = false → F w) → G w)
    (hQ : ∀ c a w, Q (.panic c) (a.put oi.dst v) w → Q (.panic c) a w) :
    ∀ (n : Nat) (L : Array Bool) (a : Act) (w : World), L.size = ops.size → closedL ops L → B w → (L.getD e false = false → F w) →
      (∀ j oj, ops[j]? = some oj → j ≠ i → L.getD j true = false → (∀ ed ∈ oj.after, Region.binds .any ed = true → ed.on ≠ i) → oi.apart ops oj = true) →
      i ∈ Region.ready .any ops L → YieldsIf P ops G oi v a →
      wpAnyG P ops Q e B F n (L.setIfInBounds i true) (a.put oi.dst v) w → wpAnyG P ops Q e B F (n + 1) L a w := by
  intro n
  induction n with
  | zero =>
    intro L a w hz hc hB hF _ hr hy H
    have hGw : G w := hG L w hz hc (getD_false_of_true (mem_ready.1 hr).1) hB hF
    refine ⟨fun h => (by rw [h] at hr; cases hr), fun j hj => ?_⟩
    by_cases hji : j = i
    · subst hji
      exact hy.wpOp hi hGw ⟨⟨hB, fun h => hF (by rwa [getD_set_ne false hie] at h)⟩, H⟩
    · have := ready_mono hj hji
      rw [H.1] at this
      cases this
  | succ n ih =>
    intro L a w hz hc hB hF hfree hr hy H
    have hGw : G w := hG L w hz hc (getD_false_of_true (mem_ready.1 hr).1) hB hF
    refine ⟨fun h => (by rw [h] at hr; cases hr), fun j hj => ?_⟩
    by_cases hji : j = i
    · subst hji
      exact hy.wpOp hi hGw ⟨⟨hB, fun h => hF (by rwa [getD_set_ne false hie] at h)⟩, H⟩
    · have h1 := H.2 j (ready_mono hj hji)
      obtain ⟨hjun, oj, hoj, hall⟩ := mem_ready.1 hj
      have hnot : ∀ ed ∈ oj.after, Region.binds .any ed = true → ed.on ≠ i := fun ed he hb heq => by
        have h1 := hall ed he hb
        have h0 := (mem_ready.1 hr).1
        rw [heq] at h1
        rcases Nat.lt_or_ge i L.size with h' | h'
        · simp [h'] at h0 h1; rw [h0] at h1; cases h1
        · simp [Array.getElem?_eq_none h'] at h1
      have h2 := wpOp_putIf hoj (hfree j oj hoj hji hjun hnot) (fun cs b => Region.noSelect_spec hsel i oi cs b hi) (fun cs b => Region.noSelect_spec hsel j oj cs b hoj) hQ hy h1
      have hfree' : ∀ k ok, ops[k]? = some ok → k ≠ i → (L.setIfInBounds j true).getD k true = false →
          (∀ ed ∈ ok.after, Region.binds .any ed = true → ed.on ≠ i) → oi.apart ops ok = true := fun k ok hk hki hun hno => by
        refine hfree k ok hk hki ?_ hno
        by_cases hjk : j = k
        · subst hjk; exact hjun
        · rw [getD_set_ne true hjk] at hun; exact hun
      refine wpOp_mono (fun a' w' h3 => ?_) h2
      obtain ⟨hy', ⟨hB', hF'⟩, hK⟩ := h3
      rw [Array.setIfInBounds_comm _ _ (Ne.symm hji)] at hF' hK
      have hF2 : (L.setIfInBounds j true).getD e false = false → F w' := fun h => hF' (by rw [getD_set_ne false hie]; exact h)
      exact ⟨⟨hB', hF2⟩, ih (L.setIfInBounds j true) a' w' (by simpa using hz) (hc.set hj) hB' hF2 hfree' (ready_mono hr (Ne.symm hji)) hy' hK⟩
theorem wpAnyG_alone {i n : Nat} {L : Array Bool} {a : Act} {w : World} (hr : Region.ready .any ops L = [i])
    (h : wpOp P ops Q i (fun a' w' => (B w' ∧ ((L.setIfInBounds i true).getD e false = false → F w')) ∧ wpAnyG P ops Q e B F n (L.setIfInBounds i true) a' w') a w) : wpAnyG P ops Q e B F (n + 1) L a w :=
  ⟨fun h0 => (by rw [hr] at h0; cases h0), fun j hj => by
    rw [hr] at hj
    obtain rfl : j = i := by simpa using hj
    exact h⟩
end

/-- the order: 0: reads nothing that may be written; 1: reads, ahead of number e; 2: acts, alone, ahead of e; 3: alone, from e on -/
def ordOk (e : Nat) (ops : Array Oper) : Array Bool → List (Nat × Nat) → Bool
  | L, [] => (Region.ready .any ops L).isEmpty
  | L, (m, i) :: r => (match m with
      | 0 => (Region.ready .any ops L).contains i && Region.free .any ops L i && !(i == e)
      | 1 => (Region.ready .any ops L).contains i && Region.free .any ops L i && !(i == e) && (decide (ops.size ≤ e) || waitsT ops ops.size e i)
      | 2 => decide (Region.ready .any ops L = [i]) && !(i == e)
      | _ => decide (Region.ready .any ops L = [i]) && ((L.setIfInBounds i true).getD e false)) && ordOk e ops (L.setIfInBounds i true) r
def nthO : List Oper → Nat → Option Oper
  | [], _ => none
  | o :: _, 0 => some o
  | _ :: l, i + 1 => nthO l i
theorem nthO_eq : ∀ (l : List Oper) (i : Nat), l[i]? = nthO l i
  | [], i => by simp [nthO]
  | o :: l, 0 => by simp [nthO]
  | o :: l, i + 1 => by simpa [nthO] using nthO_eq l i
def picks (l : List Oper) : List (Nat × Nat) → Option (List (Nat × Nat × Oper))
  | [] => some []
  | (m, i) :: r => match nthO l i, picks l r with
    | some o, some t => some ((m, i, o) :: t)
    | _, _ => none
theorem picks_spec {l : List Oper} : ∀ {r : List (Nat × Nat)} {t}, picks l r = some t → t.map (fun x => (x.1, x.2.1)) = r ∧ ∀ x ∈ t, l[x.2.1]? = some x.2.2
  | [], t, h => by cases h; exact ⟨rfl, by simp⟩
  | (m, i) :: r, t, h => by
    simp only [picks] at h
    split at h
    · rename_i o t' ho ht
      cases h
      obtain ⟨h1, h2⟩ := picks_spec ht
      refine ⟨by simp [h1], fun x hx => ?_⟩
      rcases List.mem_cons.1 hx with rfl | hx
      · rw [nthO_eq]; exact ho
      · exact h2 x hx
    · cases h

structure TD (P : Program) (C : Ctx) (l : List Oper) (Q : Exit → Act → World → Prop) (e : Nat) (S0 : List Ent) (t : List (Nat × Nat × Oper)) (E : Slots) (S : List Ent) : Prop where
  run : ∀ (L : Array Bool) a w, L.size = l.toArray.size → Region.noSelect l.toArray = true → (∀ x ∈ t, l[x.2.1]? = some x.2.2) → closedL l.toArray L → ordOk e l.toArray L (t.map fun x => (x.1, x.2.1)) = true → Env C.n a E → Mem C w S →
    (L.getD e false = false → Mem C w S0) → (∀ c a (dst : Option Tmp) v w, Q (.panic c) (a.put dst v) w → Q (.panic c) a w) → wpAnyG P l.toArray Q e (fun w => Mem C w []) (fun w => Mem C w S0) t.length L a w

section
variable {P : Program} {C : Ctx} {Q : Exit → Act → World → Prop} {e : Nat} {S0 S : List Ent} {E : Slots} {l : List Oper} {t : List (Nat × Nat × Oper)}
variable {d ty i : Nat} {ps : String} {af : Array Edge} {op : Op} {v : Value}
/-- where a panic would go, the frame is not looked at -/
def Blind (Q : Exit → Act → World → Prop) : Prop := ∀ c a (dst : Option Tmp) v w, Q (.panic c) (a.put dst v) w → Q (.panic c) a w
theorem Mem.none {w : World} (h : Mem C w S) : Mem C w [] := h.sub (List.nil_sublist _)
theorem T_draw {id : Nat} (e : Nat) (order : List (Nat × Nat)) {t : List (Nat × Nat × Oper)} (hm : P.follows .mixedOrders = true) (hp : picks l order = some t)
    (hB : (Region.noSelect l.toArray && Nat.beq order.length l.length && ordOk e l.toArray (Array.replicate l.length false) order) = true) (hb : Blind Q) (h : TD P C l Q e S t E S) : T P C (.region id l.toArray true) Q E S := by
  refine ⟨fun a w ha hw => ?_⟩
  simp only [Bool.and_eq_true] at hB
  obtain ⟨⟨hsel, hlen⟩, hord⟩ := hB
  have hlen' := Nat.eq_of_beq_eq_true hlen
  obtain ⟨h1, h2⟩ := picks_spec hp
  refine wp_region_any hm ?_
  have htl : t.length = l.toArray.size := by
    rw [← List.length_map (as := t) (f := fun x => (x.1, x.2.1)), h1, hlen']; simp
  have := h.run (Array.replicate l.length false) a w.drew (by simp) hsel h2 (fun j oj _ hl => by
      exfalso
      rcases Nat.lt_or_ge j l.length with h | h
      · simp [h] at hl
      · simp [h] at hl) (by rw [h1]; exact hord) ha hw.drew (fun _ => hw.drew) hb
  rw [htl] at this
  have := wpAny_of_G _ _ _ _ this
  simpa using this
theorem TD_nil (h : At C (Q .normal) E S) : TD P C l Q e S0 [] E S :=
  ⟨fun L a w _ _ _ _ hord ha hw _ _ => ⟨by simpa [ordOk] using hord, h.run a w ha hw⟩⟩
theorem TD_take {m : Nat} {o : Oper} (hmode : m = 0 ∨ m = 1) {E' : Slots}
    (hy : ∀ a, Env C.n a E → YieldsIf P l.toArray (fun w => if m = 0 then Mem C w [] else Mem C w S0) o v a ∧ Env C.n (a.put o.dst v) E') (h : TD P C l Q e S0 t E' S) : TD P C l Q e S0 ((m, i, o) :: t) E S := by
  refine ⟨fun L a w hz hsel hpk hc hord ha hw hF hb => ?_⟩
  obtain ⟨hy1, hy2⟩ := hy a ha
  have hi : l.toArray[i]? = some o := by simpa using hpk (m, i, o) (by simp)
  have key : (Region.ready .any l.toArray L).contains i = true ∧ Region.free .any l.toArray L i = true ∧ i ≠ e ∧ (m = 1 → l.toArray.size ≤ e ∨ waitsT l.toArray l.toArray.size e i = true) ∧ ordOk e l.toArray (L.setIfInBounds i true) (t.map fun x => (x.1, x.2.1)) = true := by
    rcases hmode with rfl | rfl
    · simp only [List.map_cons, ordOk, Bool.and_eq_true, Bool.not_eq_true', beq_eq_false_iff_ne] at hord
      exact ⟨hord.1.1.1, hord.1.1.2, hord.1.2, by simp, hord.2⟩
    · simp only [List.map_cons, ordOk, Bool.and_eq_true, Bool.not_eq_true', beq_eq_false_iff_ne, Bool.or_eq_true, decide_eq_true_eq] at hord
      exact ⟨hord.1.1.1.1, hord.1.1.1.2, hord.1.1.2, fun _ => hord.1.2, hord.2⟩
  obtain ⟨k1, k2, k3, k4, k5⟩ := key
  have hr : i ∈ Region.ready .any l.toArray L := by simpa using k1
  refine wpAnyG_first hi hsel k3 (fun w => if m = 0 then Mem C w [] else Mem C w S0) (fun L' w' hz' hc' hL' hB' hF' => ?_) (fun c a w h => hb c _ _ _ w h) t.length L a w hz hc hw.none hF (Region.free_spec hi k2) hr hy1
    (h.run _ _ w (by simpa using hz) hsel (fun x hx => hpk x (by simp [hx])) (hc.set hr) k5 hy2 hw (fun h => hF (by rwa [getD_set_ne false k3] at h)) hb)
  by_cases hm0 : m = 0
  · rw [if_pos hm0]; exact hB'
  · rw [if_neg hm0]
    have hm1 : m = 1 := by omega
    refine hF' ?_
    cases he : L'.getD e false with
    | false => rfl
    | true =>
      rcases k4 hm1 with h1 | h1
      · have hn : L'[e]? = Option.none := Array.getElem?_eq_none (by omega)
        simp [hn] at he
      · have := waitsT_listed hc' _ _ h1 he
        rw [hL'] at this; cases this
theorem yIf {G : World → Prop} {o : Oper} {a : Act} {dst : Option Tmp} {g : Option (Nat × Bool)} (ho : o = ⟨dst, op, ty, ps, af, g⟩) (hw : Region.wanted o (yielded l.toArray a.tmps) = true)
    (hr : ∀ w, G w → (execOp a.eval ⟨dst, op, ty, ps, af, g⟩).run P w = .ok (.value v) w) : YieldsIf P l.toArray G o v a := .inl ⟨hw, fun w h => by rw [ho]; exact hr w h⟩
/-! what is taken first -/
theorem TD_q0 (hq : QS P C E [] op ty v) (hd : Nat.ble (d + 1) C.n = true) (h : TD P C l Q e S0 t ((d, v) :: E) S) : TD P C l Q e S0 ((0, i, ⟨some d, op, ty, ps, af, none⟩) :: t) E S :=
  TD_take (v := v) (.inl rfl) (fun a ha => ⟨yIf rfl (by simp [Region.wanted]) (fun w hw => hq _ _ _ _ a w ha (by simpa using hw)), ha.put hd v⟩) h
theorem TD_q1 (hq : QS P C E S0 op ty v) (hd : Nat.ble (d + 1) C.n = true) (h : TD P C l Q e S0 t ((d, v) :: E) S) : TD P C l Q e S0 ((1, i, ⟨some d, op, ty, ps, af, none⟩) :: t) E S :=
  TD_take (v := v) (.inr rfl) (fun a ha => ⟨yIf rfl (by simp [Region.wanted]) (fun w hw => hq _ _ _ _ a w ha (by simpa using hw)), ha.put hd v⟩) h
section
variable {j k : Nat} {b want : Bool}
theorem wanted_yes {a : Act} {o : Oper} (ha : Env C.n a E) (ho : o.guard = some (j, want)) (hj : dstAt l j = some k) (hk : look k E = some (.bool b)) (hb : b = want) : Region.wanted o (yielded l.toArray a.tmps) = true := by
  simp only [Region.wanted, ho, yielded_at ha hj hk, hb]; simp
theorem wanted_no {a : Act} {o : Oper} (ha : Env C.n a E) (ho : o.guard = some (j, want)) (hj : dstAt l j = some k) (hk : look k E = some (.bool b)) (hb : b = !want) : Region.wanted o (yielded l.toArray a.tmps) = false := by
  simp only [Region.wanted, ho, yielded_at ha hj hk, hb]; cases want <;> rfl
theorem wanted_undef {a : Act} {o : Oper} (ha : Env C.n a E) (ho : o.guard = some (j, want)) (hj : dstAt l j = some k) (hk : look k E = some undef) : Region.wanted o (yielded l.toArray a.tmps) = false := by
  simp only [Region.wanted, ho, yielded_undef ha hj hk]; rfl
theorem TD_q0y (hj : dstAt l j = some k) (hk : look k E = some (.bool b)) (hb : b = want) (hq : QS P C E [] op ty v) (hd : Nat.ble (d + 1) C.n = true) (h : TD P C l Q e S0 t ((d, v) :: E) S) : TD P C l Q e S0 ((0, i, ⟨some d, op, ty, ps, af, some (j, want)⟩) :: t) E S :=
  TD_take (v := v) (.inl rfl) (fun a ha => ⟨yIf rfl (wanted_yes ha rfl hj hk hb) (fun w hw => hq _ _ _ _ a w ha (by simpa using hw)), ha.put hd v⟩) h
theorem TD_q1y (hj : dstAt l j = some k) (hk : look k E = some (.bool b)) (hb : b = want) (hq : QS P C E S0 op ty v) (hd : Nat.ble (d + 1) C.n = true) (h : TD P C l Q e S0 t ((d, v) :: E) S) : TD P C l Q e S0 ((1, i, ⟨some d, op, ty, ps, af, some (j, want)⟩) :: t) E S :=
  TD_take (v := v) (.inr rfl) (fun a ha => ⟨yIf rfl (wanted_yes ha rfl hj hk hb) (fun w hw => hq _ _ _ _ a w ha (by simpa using hw)), ha.put hd v⟩) h
theorem TD_no {m : Nat} (hm : Nat.ble m 1 = true) (hj : dstAt l j = some k) (hk : look k E = some (.bool b)) (hb : b = !want) (hd : Nat.ble (d + 1) C.n = true) (h : TD P C l Q e S0 t ((d, undef) :: E) S) : TD P C l Q e S0 ((m, i, ⟨some d, op, ty, ps, af, some (j, want)⟩) :: t) E S :=
  TD_take (v := undef) (by have := Nat.le_of_ble_eq_true hm; omega) (fun a ha => ⟨.inr ⟨wanted_no ha rfl hj hk hb, rfl⟩, ha.put hd undef⟩) h
theorem TD_noU {m : Nat} (hm : Nat.ble m 1 = true) (hj : dstAt l j = some k) (hk : look k E = some undef) (hd : Nat.ble (d + 1) C.n = true) (h : TD P C l Q e S0 t ((d, undef) :: E) S) : TD P C l Q e S0 ((m, i, ⟨some d, op, ty, ps, af, some (j, want)⟩) :: t) E S :=
  TD_take (v := undef) (by have := Nat.le_of_ble_eq_true hm; omega) (fun a ha => ⟨.inr ⟨wanted_undef ha rfl hj hk, rfl⟩, ha.put hd undef⟩) h
theorem TD_guard {m : Nat} {dst : Option Tmp} (hj : dstAt l j = some k) (hk : look k E = some (.bool b))
    (h1 : b = true → TD P C l Q e S0 ((m, i, ⟨dst, op, ty, ps, af, some (j, want)⟩) :: t) ((k, .bool true) :: E) S)
    (h0 : b = false → TD P C l Q e S0 ((m, i, ⟨dst, op, ty, ps, af, some (j, want)⟩) :: t) ((k, .bool false) :: E) S) : TD P C l Q e S0 ((m, i, ⟨dst, op, ty, ps, af, some (j, want)⟩) :: t) E S := by
  refine ⟨fun L a w hz hsel hpk hc hord ha hw hF hb => ?_⟩
  cases hbb : b
  · exact (h0 hbb).run L a w hz hsel hpk hc hord (ha.same hk (by rw [hbb])) hw hF hb
  · exact (h1 hbb).run L a w hz hsel hpk hc hord (ha.same hk (by rw [hbb])) hw hF hb
end
/-! what acts, alone -/
theorem TD_act {m : Nat} {o : Oper} (hm : 2 ≤ m)
    (hy : ∀ a w (K : Act → World → Prop), Env C.n a E → Mem C w S → (∀ a' w' E' S', TD P C l Q e S0 t E' S' → Env C.n a' E' → Mem C w' S' → (m = 2 → Mem C w S0 → Mem C w' S0) → K a' w') →
      if Region.wanted o (yielded l.toArray a.tmps) then o.wp P a w K Q ∨ (o.asks P a w ∧ LetsOut Q) else K (a.put o.dst undef) w) : TD P C l Q e S0 ((m, i, o) :: t) E S := by
  refine ⟨fun L a w hz hsel hpk hc hord ha hw hF hb => ?_⟩
  have hi : l.toArray[i]? = some o := by simpa using hpk (m, i, o) (by simp)
  have key : Region.ready .any l.toArray L = [i] ∧ (m = 2 → i ≠ e) ∧ (m ≠ 2 → (L.setIfInBounds i true).getD e false = true) ∧ ordOk e l.toArray (L.setIfInBounds i true) (t.map fun x => (x.1, x.2.1)) = true := by
    match m, hm with
    | 2, _ =>
      simp only [List.map_cons, ordOk, Bool.and_eq_true, Bool.not_eq_true', beq_eq_false_iff_ne, decide_eq_true_eq] at hord
      exact ⟨hord.1.1, fun _ => hord.1.2, fun h => absurd rfl h, hord.2⟩
    | m + 3, _ =>
      simp only [List.map_cons, ordOk, Bool.and_eq_true, decide_eq_true_eq] at hord
      exact ⟨hord.1.1, fun h => absurd h (by omega), fun _ => hord.1.2, hord.2⟩
  obtain ⟨k1, k2, k3, k4⟩ := key
  have hr : i ∈ Region.ready .any l.toArray L := by rw [k1]; simp
  refine wpAnyG_alone k1 ?_
  unfold wpOp
  rw [hi]
  refine hy a w _ ha hw (fun a' w' E' S' htd ha' hw' hkeep => ?_)
  have hF' : (L.setIfInBounds i true).getD e false = false → Mem C w' S0 := fun h => by
    by_cases h2 : m = 2
    · exact hkeep h2 (hF (by rwa [getD_set_ne false (k2 h2)] at h))
    · rw [k3 h2] at h; cases h
  exact ⟨⟨hw'.none, hF'⟩, htd.run _ a' w' (by simpa using hz) hsel (fun x hx => hpk x (by simp [hx])) (hc.set hr) k4 ha' hw' hF' hb⟩
theorem TD_e2 {o : Oper} {N : Slots → List Ent → Prop} (he : ES P C E S o N) (hg : o.guard = none) (h : ∀ E' S', N E' S' → S0.Sublist S' ∧ TD P C l Q e S0 t E' S') : TD P C l Q e S0 ((2, i, o) :: t) E S :=
  TD_act (by omega) fun a w K ha hw hK => by
    rw [if_pos (by simp [Region.wanted, hg])]
    exact .inl (he a w K Q ha hw fun a' w' E' S' hN ha' hw' => hK a' w' E' S' (h E' S' hN).2 ha' hw' (fun _ _ => hw'.sub (h E' S' hN).1))
theorem TD_e3 {o : Oper} {N : Slots → List Ent → Prop} (he : ES P C E S o N) (hg : o.guard = none) (h : ∀ E' S', N E' S' → TD P C l Q e S0 t E' S') : TD P C l Q e S0 ((3, i, o) :: t) E S :=
  TD_act (by omega) fun a w K ha hw hK => by
    rw [if_pos (by simp [Region.wanted, hg])]
    exact .inl (he a w K Q ha hw fun a' w' E' S' hN ha' hw' => hK a' w' E' S' (h E' S' hN) ha' hw' (fun h => absurd h (by omega)))
theorem TD_q3 (hq : QS P C E S op ty v) (hd : Nat.ble (d + 1) C.n = true) (h : TD P C l Q e S0 t ((d, v) :: E) S) : TD P C l Q e S0 ((3, i, ⟨some d, op, ty, ps, af, none⟩) :: t) E S :=
  TD_e3 (ES_core (fun u S' => u = v ∧ S' = S) (fun a w ha hw => ⟨v, w, S, hq _ _ _ _ a w ha hw, hw, rfl, rfl⟩) hd) rfl (by rintro _ _ ⟨_, ⟨rfl, rfl⟩, rfl⟩; exact h)
section
variable {j k : Nat} {b want : Bool} {m : Nat}
theorem TD_e2y {dst : Option Tmp} {N : Slots → List Ent → Prop} (hj : dstAt l j = some k) (hk : look k E = some (.bool b)) (hb : b = want) (he : ES P C E S ⟨dst, op, ty, ps, af, some (j, want)⟩ N)
    (h : ∀ E' S', N E' S' → S0.Sublist S' ∧ TD P C l Q e S0 t E' S') : TD P C l Q e S0 ((2, i, ⟨dst, op, ty, ps, af, some (j, want)⟩) :: t) E S :=
  TD_act (by omega) fun a w K ha hw hK => by
    rw [if_pos (wanted_yes ha rfl hj hk hb)]
    exact .inl (he a w K Q ha hw fun a' w' E' S' hN ha' hw' => hK a' w' E' S' (h E' S' hN).2 ha' hw' (fun _ _ => hw'.sub (h E' S' hN).1))
theorem TD_e3y {dst : Option Tmp} {N : Slots → List Ent → Prop} (hj : dstAt l j = some k) (hk : look k E = some (.bool b)) (hb : b = want) (he : ES P C E S ⟨dst, op, ty, ps, af, some (j, want)⟩ N)
    (h : ∀ E' S', N E' S' → TD P C l Q e S0 t E' S') : TD P C l Q e S0 ((3, i, ⟨dst, op, ty, ps, af, some (j, want)⟩) :: t) E S :=
  TD_act (by omega) fun a w K ha hw hK => by
    rw [if_pos (wanted_yes ha rfl hj hk hb)]
    exact .inl (he a w K Q ha hw fun a' w' E' S' hN ha' hw' => hK a' w' E' S' (h E' S' hN) ha' hw' (fun h => absurd h (by omega)))
theorem TD_eno (hm : Nat.ble 2 m = true) (hj : dstAt l j = some k) (hk : look k E = some (.bool b)) (hb : b = !want) (hd : Nat.ble (d + 1) C.n = true) (h : TD P C l Q e S0 t ((d, undef) :: E) S) : TD P C l Q e S0 ((m, i, ⟨some d, op, ty, ps, af, some (j, want)⟩) :: t) E S :=
  TD_act (Nat.le_of_ble_eq_true hm) fun a w K ha hw hK => by
    rw [if_neg (by rw [wanted_no ha rfl hj hk hb]; exact Bool.false_ne_true)]
    exact hK _ _ _ _ h (ha.put hd undef) hw (fun _ h => h)
theorem TD_enoU (hm : Nat.ble 2 m = true) (hj : dstAt l j = some k) (hk : look k E = some undef) (hd : Nat.ble (d + 1) C.n = true) (h : TD P C l Q e S0 t ((d, undef) :: E) S) : TD P C l Q e S0 ((m, i, ⟨some d, op, ty, ps, af, some (j, want)⟩) :: t) E S :=
  TD_act (Nat.le_of_ble_eq_true hm) fun a w K ha hw hK => by
    rw [if_neg (by rw [wanted_undef ha rfl hj hk]; exact Bool.false_ne_true)]
    exact hK _ _ _ _ h (ha.put hd undef) hw (fun _ h => h)
end
/-! Blind posts -/
theorem Blind.seq {K : Act → World → Prop} (h : Blind Q) : Blind (Exit.then K Q) := h
theorem Blind.block {id : Nat} (h : Blind Q) : Blind (Exit.inBlock id Q) := h
theorem Blind.body {fn : Func} {R : Ending → World → Prop} : Blind (bodyPost P fn R) := fun c a dst v w h => by
  cases dst <;> exact h
end
end Go.Proofs.Ytnbgcgpkpakicaa
