/- Lemmas for the walks (St1, Row, Ptr, Nd). No condition. -/
import Derived.Test.YtnflkmjfhbfekaaG16
import Derived.Test.YtnflkmjfhbfekaaG14
import Derived.Test.YtnflkmjfhbfekaaG05
import Derived.Test.YtnflkmjfhbfekaaG04
import Derived.Laws.Pointers
import Derived.LaidEqlPtr
set_option linter.unusedSimpArgs false
set_option linter.unusedVariables false
set_option linter.unusedSectionVars false
set_option linter.unnecessarySimpa false
namespace Go.Proofs.Ytnflkmjfhbfekaa
open Go.RowKit

structure Mm where
  val : List Int
  nxt : List Nat
  n : Nat
  top : Nat
  head : Nat
  tail : Nat
  anew : Nat
structure Hn where
  step : Nat
  x : Nat
  y : Nat
  z : Nat
  own : Nat
  deriving Inhabited
def Mm.nx (m : Mm) (i : Nat) : Nat := m.nxt.getD i 0
def Mm.va (m : Mm) (i : Nat) : Int := m.val.getD i 0
abbrev SRes := Mm × Hn × Option Int
def anewS (m : Mm) (h : Hn) : SRes := ({ m with anew := m.anew + 1 }, { h with step := 0 }, none)
def countS (algo : Int) (m : Mm) (h : Hn) : SRes :=
  if h.step = 0 then (m, { h with step := 1, x := m.n }, none)
  else if algo = 1 ∧ m.n ≠ h.x then anewS m h
  else ({ m with n := h.x + 1 }, { h with step := h.step + 1 }, some (h.x : Int))
def pushS (m : Mm) (h : Hn) : SRes :=
  if h.step = 0 then ({ m with nxt := m.nxt.set h.own m.top }, { h with step := 1, x := m.top }, none)
  else if m.top ≠ h.x then anewS m h
  else ({ m with top := h.own }, { h with step := h.step + 1 }, some 0)
def popS (m : Mm) (h : Hn) : SRes :=
  if h.step = 0 then (if m.top = 0 then (m, { h with step := 1, x := m.top }, some (-1)) else (m, { h with step := 1, x := m.top, y := m.nx m.top }, none))
  else if m.top ≠ h.x then anewS m h
  else ({ m with top := h.y }, { h with step := h.step + 1 }, some (m.va h.x))
def enqS (m : Mm) (h : Hn) : SRes :=
  if h.step = 0 then (m, { h with step := 1, x := m.tail, y := m.nx m.tail }, none)
  else if h.step = 1 then
    if m.tail ≠ h.x then anewS m h
    else if h.y ≠ 0 then anewS { m with tail := h.y } h
    else if m.nx h.x = 0 then ({ m with nxt := m.nxt.set h.x h.own }, { h with step := 2 }, none)
    else anewS m h
  else (if m.tail = h.x then { m with tail := h.own } else m, { h with step := h.step + 1 }, some 0)
def deqS (m : Mm) (h : Hn) : SRes :=
  if h.step = 0 then (m, { h with step := 1, x := m.head, y := m.nx m.head, z := m.tail }, none)
  else if m.head ≠ h.x then anewS m h
  else if h.x = h.z then
    if h.y = 0 then (m, { h with step := h.step + 1 }, some (-1))
    else anewS (if m.tail = h.z then { m with tail := h.y } else m) h
  else ({ m with head := h.y }, { h with step := h.step + 1 }, some (m.va h.y))
def stepS (algo kind : Int) (m : Mm) (h : Hn) : SRes :=
  if kind = 10 then countS algo m h else if kind = 5 then pushS m h else if kind = 6 then popS m h else if kind = 3 then enqS m h else deqS m h
structure Sp where
  k : Nat
  op : Nat
  h : Hn
  res : Int
  deriving Inhabited
structure Ss where
  m : Mm
  pe : List Sp
  evs : List Ev
def stepP2 (algo : Int) (ps : List (List Ak)) (s : Ss) (w : Nat) : Ss :=
  let p := s.pe.getD w default
  if (ps.getD w []).length ≤ p.k then s
  else
    let a := (ps.getD w []).getD p.k default
    if p.op = 0 then ⟨{ s.m with val := s.m.val ++ [a.arg], nxt := s.m.nxt ++ [0] }, s.pe.set w { p with op := 1, h := ⟨0, 0, 0, 0, s.m.val.length⟩ }, s.evs ++ [⟨(w : Nat), 0, a.kind, a.arg⟩]⟩
    else if p.op = 1 then
      let r := stepS algo a.kind s.m p.h
      ⟨r.1, s.pe.set w (match r.2.2 with | none => { p with h := r.2.1 } | some v => { p with op := 2, h := r.2.1, res := v }), s.evs⟩
    else ⟨s.m, s.pe.set w { p with k := p.k + 1, op := 0 }, s.evs ++ [⟨(w : Nat), 0, 0, p.res⟩]⟩
def ss0 (n : Nat) : Ss := ⟨⟨[0, 0], [0, 0], 0, 0, 1, 1, 0⟩, List.replicate n ⟨0, 0, ⟨0, 0, 0, 0, 0⟩, 0⟩, []⟩
def runS2 (algo : Int) (ps : List (List Ak)) (tu : List Int) : Nat → Ss
  | 0 => ss0 ps.length
  | k + 1 => stepP2 algo ps (runS2 algo ps tu k) (tu.getD k 0).toNat

/-! what is always so -/
inductive Rch (nxt : List Nat) (b : Nat) : Nat → Prop
  | here : Rch nxt b b
  | step {a : Nat} (h : nxt.getD a 0 ≠ 0) (r : Rch nxt b (nxt.getD a 0)) : Rch nxt b a
theorem Rch.next {nxt : List Nat} {a b : Nat} (h : Rch nxt b a) (hb : nxt.getD b 0 ≠ 0) : Rch nxt (nxt.getD b 0) a := by
  induction h with
  | here => exact .step hb .here
  | step h _ ih => exact .step h ih
theorem Rch.first {nxt : List Nat} {a b : Nat} (h : Rch nxt b a) (hn : a ≠ b) : nxt.getD a 0 ≠ 0 ∧ Rch nxt b (nxt.getD a 0) := by
  cases h with
  | here => exact absurd rfl hn
  | step h r => exact ⟨h, r⟩
/-- what was 0 alone changed -/
def Grown (nxt nxt' : List Nat) : Prop := ∀ i, nxt.getD i 0 ≠ 0 → nxt'.getD i 0 = nxt.getD i 0
theorem Grown.refl (nxt : List Nat) : Grown nxt nxt := fun _ _ => rfl
theorem Rch.grown {nxt nxt' : List Nat} {a b : Nat} (h : Rch nxt b a) (hg : Grown nxt nxt') : Rch nxt' b a := by
  induction h with
  | here => exact .here
  | step h _ ih =>
    have := hg _ h
    exact .step (by rw [this]; exact h) (by rw [this]; exact ih)
theorem grown_snoc (nxt : List Nat) (v : Nat) : Grown nxt (nxt ++ [v]) := fun i hi => by
  have : i < nxt.length := by
    rcases Nat.lt_or_ge i nxt.length with h | h
    · exact h
    · simp [h] at hi
  simp [List.getElem?_append_left this]
theorem grown_set (nxt : List Nat) (j v : Nat) (h : nxt.getD j 0 = 0) : Grown nxt (nxt.set j v) := fun i hi => by
  have : j ≠ i := fun e => by rw [e] at h; exact hi h
  simp [List.getElem?_set_ne this]

/-- of the memory, whatever goes on -/
structure MmOk (m : Mm) : Prop where
  len : m.val.length = m.nxt.length
  two : 2 ≤ m.nxt.length
  nx : ∀ i, m.nx i < m.nxt.length
  top : m.top < m.nxt.length
  head : m.head < m.nxt.length
  tail : m.tail < m.nxt.length
  h0 : m.head ≠ 0
  t0 : m.tail ≠ 0
/-- of one who goes on -/
structure HnOk (m : Mm) (kind : Int) (h : Hn) : Prop where
  own : h.own < m.nxt.length
  o0 : h.own ≠ 0
  x : kind ≠ 10 → h.x < m.nxt.length
  y : h.y < m.nxt.length
  z : h.z < m.nxt.length
  xs : kind ≠ 10 → kind ≠ 5 → h.step ≠ 0 → h.x ≠ 0
  ten : kind = 10 → h.y = 0 ∧ h.z = 0
  two : kind = 3 → h.step ≤ 2
  one : kind ≠ 3 → h.step ≤ 1
  q : kind = 3 ∨ kind = 4 → h.step ≠ 0 → h.y ≠ 0 → m.nx h.x = h.y
  q2 : kind = 3 → h.step = 2 → m.nx h.x = h.own
  q4 : kind = 4 → h.step ≠ 0 → h.x ≠ h.z → h.y ≠ 0 ∧ Rch m.nxt m.tail h.y
/-- what goes from one memory to the next -/
structure MmTo (q : Bool) (m m' : Mm) : Prop where
  len : m.nxt.length ≤ m'.nxt.length
  g : q = true → Grown m.nxt m'.nxt
  t : q = true → Rch m'.nxt m'.tail m.tail
theorem Rch.trans {nxt : List Nat} {a b c : Nat} (h : Rch nxt b a) (h2 : Rch nxt c b) : Rch nxt c a := by
  induction h with
  | here => exact h2
  | step h _ ih => exact .step h ih
theorem MmTo.refl (q : Bool) (m : Mm) : MmTo q m m := ⟨Nat.le_refl _, fun _ => Grown.refl _, fun _ => .here⟩
theorem HnOk.to {q : Bool} {m m' : Mm} {kind : Int} {h : Hn} (hk : kind = 3 ∨ kind = 4 → q = true) (hm : MmTo q m m') (hh : HnOk m kind h) : HnOk m' kind h := by
  have hl := hm.len
  refine ⟨by have := hh.own; omega, hh.o0, fun e => by have := hh.x e; omega, by have := hh.y; omega, by have := hh.z; omega, hh.xs, hh.ten, hh.two, hh.one, fun e h1 h2 => ?_, fun e h1 => ?_, fun e h1 h2 => ?_⟩
  · have h3 := hh.q e h1 h2
    have := hm.g (hk e) h.x (by unfold Mm.nx at h3; rw [h3]; exact h2)
    unfold Mm.nx at h3 ⊢
    rw [this, h3]
  · have h3 := hh.q2 e h1
    have := hm.g (hk (.inl e)) h.x (by unfold Mm.nx at h3; rw [h3]; exact hh.o0)
    unfold Mm.nx at h3 ⊢
    rw [this, h3]
  · obtain ⟨h3, h4⟩ := hh.q4 e h1 h2
    exact ⟨h3, (h4.grown (hm.g (hk (.inr e)))).trans (hm.t (hk (.inr e)))⟩
/-- which kinds go with an algorithm -/
def kindA (algo kind : Int) : Prop := (algo = 1 ∨ algo = 2) ∧ kind = 10 ∨ algo = 3 ∧ (kind = 5 ∨ kind = 6) ∨ algo = 4 ∧ (kind = 3 ∨ kind = 4)
def qA (algo : Int) : Bool := decide (algo = 4)
/-- the queue's chain -/
def ChA (algo : Int) (m : Mm) : Prop := algo = 4 → Rch m.nxt m.tail m.head
theorem MmOk.anew {m : Mm} (h : MmOk m) (n : Nat) : MmOk { m with anew := n } := ⟨h.len, h.two, h.nx, h.top, h.head, h.tail, h.h0, h.t0⟩
theorem HnOk.anew {m : Mm} {kind : Int} {h : Hn} (hh : HnOk m kind h) (n : Nat) : HnOk { m with anew := n } kind { h with step := 0 } :=
  ⟨hh.own, hh.o0, hh.x, hh.y, hh.z, fun _ _ e => absurd rfl e, hh.ten, fun _ => by dsimp only; omega, fun _ => by dsimp only; omega, fun _ e => absurd rfl e, fun _ e => (by cases e), fun _ e => absurd rfl e⟩
theorem setNx {m : Mm} {j v : Nat} (hv : v < m.nxt.length) (h : ∀ i, m.nx i < m.nxt.length) (i : Nat) : (m.nxt.set j v).getD i 0 < (m.nxt.set j v).length := by
  rw [List.length_set, List.getD_eq_getElem?_getD, List.getElem?_set]
  split
  · split
    · exact hv
    · simp; omega
  · have := h i
    unfold Mm.nx at this
    rwa [List.getD_eq_getElem?_getD] at this
structure StepOk (algo kind : Int) (m : Mm) (r : SRes) : Prop where
  mo : MmOk r.1
  ch : ChA algo r.1
  hn : r.2.2 = none → HnOk r.1 kind r.2.1
  to : MmTo (qA algo) m r.1
theorem countS_ok {algo : Int} {m : Mm} {h : Hn} (ha : kindA algo 10) (hm : MmOk m) (hc : ChA algo m) (hh : HnOk m 10 h) : StepOk algo 10 m (countS algo m h) := by
  unfold countS
  split
  · exact ⟨hm, hc, fun _ => ⟨hh.own, hh.o0, fun e => absurd rfl e, hh.y, hh.z, fun e => absurd rfl e, hh.ten, fun e => (by cases e), fun _ => by simp, fun e => by simp at e, fun e => by simp at e, fun e => by simp at e⟩, MmTo.refl _ _⟩
  split
  · exact ⟨hm.anew _, hc, fun _ => hh.anew _, ⟨Nat.le_refl _, fun _ => Grown.refl _, fun _ => .here⟩⟩
  · exact ⟨⟨hm.len, hm.two, hm.nx, hm.top, hm.head, hm.tail, hm.h0, hm.t0⟩, hc, fun e => by (cases e), ⟨Nat.le_refl _, fun _ => Grown.refl _, fun _ => .here⟩⟩
theorem pushS_ok {algo : Int} {m : Mm} {h : Hn} (ha : kindA algo 5) (hm : MmOk m) (hc : ChA algo m) (hh : HnOk m 5 h) : StepOk algo 5 m (pushS m h) := by
  have h3 : algo = 3 := by unfold kindA at ha; omega
  subst h3
  have hq : qA 3 = false := rfl
  rw [show StepOk 3 5 m (pushS m h) = StepOk 3 5 m (pushS m h) from rfl]
  unfold pushS
  split
  · refine ⟨⟨by simp [hm.len], by simpa using hm.two, fun i => ?_, by simpa using hm.top, by simpa using hm.head, by simpa using hm.tail, hm.h0, hm.t0⟩, fun e => by simp at e, fun _ => ⟨by simpa using hh.own, hh.o0, fun _ => by simpa using hm.top, by simpa using hh.y, by simpa using hh.z, fun _ e => absurd rfl e, fun e => by simp at e, fun e => by simp at e, fun _ => by simp, fun e => by simp at e, fun e => by simp at e, fun e => by simp at e⟩, ⟨by simp, fun e => (by rw [hq] at e; cases e), fun e => (by rw [hq] at e; cases e)⟩⟩
    exact setNx hm.top hm.nx i
  split
  · exact ⟨hm.anew _, hc, fun _ => hh.anew _, ⟨Nat.le_refl _, fun _ => Grown.refl _, fun _ => .here⟩⟩
  · exact ⟨⟨hm.len, hm.two, hm.nx, hh.own, hm.head, hm.tail, hm.h0, hm.t0⟩, fun e => by simp at e, fun e => by (cases e), ⟨Nat.le_refl _, fun _ => Grown.refl _, fun _ => .here⟩⟩
theorem popS_ok {algo : Int} {m : Mm} {h : Hn} (ha : kindA algo 6) (hm : MmOk m) (hc : ChA algo m) (hh : HnOk m 6 h) : StepOk algo 6 m (popS m h) := by
  unfold popS
  split
  · split
    · exact ⟨hm, hc, fun e => by (cases e), MmTo.refl _ _⟩
    · rename_i h0
      exact ⟨hm, hc, fun _ => ⟨hh.own, hh.o0, fun _ => hm.top, hm.nx _, hh.z, fun _ _ _ => h0, fun e => by simp at e, fun e => by simp at e, fun _ => by simp, fun e => by simp at e, fun e => by simp at e, fun e => by simp at e⟩, MmTo.refl _ _⟩
  split
  · exact ⟨hm.anew _, hc, fun _ => hh.anew _, ⟨Nat.le_refl _, fun _ => Grown.refl _, fun _ => .here⟩⟩
  · exact ⟨⟨hm.len, hm.two, hm.nx, hh.y, hm.head, hm.tail, hm.h0, hm.t0⟩, hc, fun e => by (cases e), ⟨Nat.le_refl _, fun _ => Grown.refl _, fun _ => .here⟩⟩
theorem enqS_ok {algo : Int} {m : Mm} {h : Hn} (ha : kindA algo 3) (hm : MmOk m) (hc : ChA algo m) (hh : HnOk m 3 h) : StepOk algo 3 m (enqS m h) := by
  have h4 : algo = 4 := by unfold kindA at ha; omega
  subst h4
  have hc := hc rfl
  unfold enqS
  split
  · exact ⟨hm, fun _ => hc, fun _ => ⟨hh.own, hh.o0, fun _ => hm.tail, hm.nx _, hh.z, fun _ _ _ => hm.t0, fun e => by simp at e, fun _ => by simp, fun e => absurd rfl e, fun _ _ _ => rfl, fun _ e => by simp at e, fun e => by simp at e⟩, MmTo.refl _ _⟩
  rename_i hs0
  split
  · rename_i hs1
    split
    · exact ⟨hm.anew _, fun _ => hc, fun _ => hh.anew _, ⟨Nat.le_refl _, fun _ => Grown.refl _, fun _ => .here⟩⟩
    rename_i htx
    have htx : m.tail = h.x := Classical.not_not.1 htx
    split
    · rename_i hy
      have hxy := hh.q (.inl rfl) hs0 hy
      have hn : m.nxt.getD m.tail 0 ≠ 0 := by rw [htx]; unfold Mm.nx at hxy; rw [hxy]; exact hy
      have hxy' : m.nxt.getD m.tail 0 = h.y := by rw [htx]; exact hxy
      have hr := hc.next hn
      rw [hxy'] at hr
      have ht : MmTo true m { m with tail := h.y } := ⟨Nat.le_refl _, fun _ => Grown.refl _, fun _ => by have := Rch.next (nxt := m.nxt) (.here (b := m.tail)) hn; rw [hxy'] at this; exact this⟩
      have hm' : MmOk { m with tail := h.y } := ⟨hm.len, hm.two, hm.nx, hm.top, hm.head, hh.y, hm.h0, hy⟩
      exact ⟨hm'.anew _, fun _ => hr, fun _ => (HnOk.to (q := true) (fun _ => rfl) ht hh).anew _, ⟨ht.len, fun _ => ht.g rfl, fun _ => ht.t rfl⟩⟩
    rename_i hy
    split
    · rename_i hn
      have hg := grown_set m.nxt h.x h.own hn
      refine ⟨⟨by simp [hm.len], by simpa using hm.two, setNx hh.own hm.nx, by simpa using hm.top, by simpa using hm.head, by simpa using hm.tail, hm.h0, hm.t0⟩, fun _ => hc.grown hg, fun _ => ⟨by simpa using hh.own, hh.o0, fun e => by simpa using hh.x e, by simpa using hh.y, by simpa using hh.z, fun e1 e2 _ => hh.xs e1 e2 hs0, hh.ten, fun _ => by simp, fun e => absurd rfl e, fun _ _ e => absurd e hy, fun _ _ => ?_, fun e => by simp at e⟩, ⟨by simp, fun _ => hg, fun _ => .here⟩⟩
      have := hh.x (by decide)
      simp [Mm.nx, this]
    · exact ⟨hm.anew _, fun _ => hc, fun _ => hh.anew _, ⟨Nat.le_refl _, fun _ => Grown.refl _, fun _ => .here⟩⟩
  · rename_i hs1
    have h2 : h.step = 2 := by have := hh.two rfl; omega
    have hxo := hh.q2 rfl h2
    split
    · rename_i htx
      have hn : m.nxt.getD m.tail 0 ≠ 0 := by rw [htx]; unfold Mm.nx at hxo; rw [hxo]; exact hh.o0
      have hxo' : m.nxt.getD m.tail 0 = h.own := by rw [htx]; exact hxo
      have hr := hc.next hn
      rw [hxo'] at hr
      exact ⟨⟨hm.len, hm.two, hm.nx, hm.top, hm.head, hh.own, hm.h0, hh.o0⟩, fun _ => hr, fun e => by (cases e), ⟨Nat.le_refl _, fun _ => Grown.refl _, fun _ => by have := Rch.next (nxt := m.nxt) (.here (b := m.tail)) hn; rw [hxo'] at this; exact this⟩⟩
    · exact ⟨hm, fun _ => hc, fun e => by (cases e), MmTo.refl _ _⟩
theorem deqS_ok {algo : Int} {m : Mm} {h : Hn} (ha : kindA algo 4) (hm : MmOk m) (hc : ChA algo m) (hh : HnOk m 4 h) : StepOk algo 4 m (deqS m h) := by
  have h4 : algo = 4 := by unfold kindA at ha; omega
  subst h4
  have hc := hc rfl
  unfold deqS
  split
  · exact ⟨hm, fun _ => hc, fun _ => ⟨hh.own, hh.o0, fun _ => hm.head, hm.nx _, hm.tail, fun _ _ _ => hm.h0, fun e => by simp at e, fun e => by simp at e, fun _ => by simp, fun _ _ _ => rfl, fun e => by simp at e, fun _ _ e => hc.first e⟩, MmTo.refl _ _⟩
  rename_i hs0
  split
  · exact ⟨hm.anew _, fun _ => hc, fun _ => hh.anew _, ⟨Nat.le_refl _, fun _ => Grown.refl _, fun _ => .here⟩⟩
  rename_i hhx
  have hhx : m.head = h.x := Classical.not_not.1 hhx
  split
  · rename_i hxz
    split
    · exact ⟨hm, fun _ => hc, fun e => by (cases e), MmTo.refl _ _⟩
    rename_i hy
    split
    · rename_i htz
      have hxy := hh.q (.inr rfl) hs0 hy
      have hn : m.nxt.getD m.tail 0 ≠ 0 := by rw [htz, ← hxz]; unfold Mm.nx at hxy; rw [hxy]; exact hy
      have hxy' : m.nxt.getD m.tail 0 = h.y := by rw [htz, ← hxz]; exact hxy
      have hr := hc.next hn
      rw [hxy'] at hr
      have ht : MmTo true m { m with tail := h.y } := ⟨Nat.le_refl _, fun _ => Grown.refl _, fun _ => by have := Rch.next (nxt := m.nxt) (.here (b := m.tail)) hn; rw [hxy'] at this; exact this⟩
      have hm' : MmOk { m with tail := h.y } := ⟨hm.len, hm.two, hm.nx, hm.top, hm.head, hh.y, hm.h0, hy⟩
      exact ⟨hm'.anew _, fun _ => hr, fun _ => (HnOk.to (q := true) (fun _ => rfl) ht hh).anew _, ⟨ht.len, fun _ => ht.g rfl, fun _ => ht.t rfl⟩⟩
    · exact ⟨hm.anew _, fun _ => hc, fun _ => hh.anew _, ⟨Nat.le_refl _, fun _ => Grown.refl _, fun _ => .here⟩⟩
  · rename_i hxz
    obtain ⟨hy, hr⟩ := hh.q4 rfl hs0 hxz
    exact ⟨⟨hm.len, hm.two, hm.nx, hm.top, hh.y, hm.tail, hy, hm.t0⟩, fun _ => hr, fun e => by (cases e), ⟨Nat.le_refl _, fun _ => Grown.refl _, fun _ => .here⟩⟩
theorem stepS_ok {algo kind : Int} {m : Mm} {h : Hn} (ha : kindA algo kind) (hm : MmOk m) (hc : ChA algo m) (hh : HnOk m kind h) : StepOk algo kind m (stepS algo kind m h) := by
  have hk : kind = 10 ∨ kind = 5 ∨ kind = 6 ∨ kind = 3 ∨ kind = 4 := by unfold kindA at ha; omega
  rcases hk with rfl | rfl | rfl | rfl | rfl
  · exact countS_ok ha hm hc hh
  · exact pushS_ok ha hm hc hh
  · exact popS_ok ha hm hc hh
  · exact enqS_ok ha hm hc hh
  · exact deqS_ok ha hm hc hh

/-! all of it -/
def algT (algo : Int) : Int := if algo = 1 ∨ algo = 2 then 5 else if algo = 3 then 3 else if algo = 4 then 2 else 0
theorem kindA_of {algo : Int} {a : Ak} (h : askB [algT algo] a = true) : a.thing = 0 ∧ kindA algo a.kind := by
  obtain ⟨h1, h2, h3, _⟩ := askB_ok h
  have h0 : a.thing = 0 := by simp at h2; omega
  refine ⟨h0, ?_⟩
  rw [h0] at h3
  simp only [List.getD_cons_zero, Int.toNat_zero] at h3
  unfold algT kindsL at h3
  unfold kindA
  (repeat' split at h3) <;> simp at h3 <;> omega
structure SpOk (m : Mm) (row : List Ak) (K : Nat) (p : Sp) : Prop where
  k : p.k ≤ row.length
  lt : p.op ≠ 0 → p.k < row.length
  op : p.op ≤ 2
  h : p.op = 1 → HnOk m (row.getD p.k default).kind p.h
  x : p.op = 1 → (row.getD p.k default).kind = 10 → p.h.x ≤ K
structure SsOk (algo : Int) (ps : List (List Ak)) (K : Nat) (s : Ss) : Prop where
  m : MmOk s.m
  c : ChA algo s.m
  n : s.m.n ≤ K
  a : s.m.anew ≤ K
  l : s.m.nxt.length ≤ K + 2
  e : s.evs.length ≤ K
  pe : s.pe.length = ps.length
  each : ∀ w (h : w < s.pe.length), SpOk s.m (ps.getD w []) K s.pe[w]
theorem ss0_ok (algo : Int) (ps : List (List Ak)) : SsOk algo ps 0 (ss0 ps.length) := by
  refine ⟨⟨rfl, by simp [ss0], fun i => ?_, by simp [ss0], by simp [ss0], by simp [ss0], by simp [ss0], by simp [ss0]⟩, fun _ => .here, by simp [ss0], by simp [ss0], by simp [ss0], by simp [ss0], by simp [ss0], fun w h => ?_⟩
  · match i with
    | 0 => simp [Mm.nx, ss0]
    | 1 => simp [Mm.nx, ss0]
    | i + 2 => simp [Mm.nx, ss0]
  · simp only [ss0, List.getElem_replicate]
    exact ⟨by simp, fun e => absurd rfl e, by simp, fun e => by simp at e, fun e => by simp at e⟩
theorem countS_n {algo : Int} {m : Mm} {h : Hn} {K : Nat} (h1 : m.n ≤ K) (h2 : h.x ≤ K) (h3 : m.anew ≤ K) : (countS algo m h).1.n ≤ K + 1 ∧ (countS algo m h).1.anew ≤ K + 1 ∧ (countS algo m h).2.1.x ≤ K + 1 := by
  unfold countS anewS
  (repeat' split) <;> dsimp only <;> omega
theorem restS_n {algo kind : Int} {m : Mm} {h : Hn} {K : Nat} (hk : kind ≠ 10) (h1 : m.n ≤ K) (h3 : m.anew ≤ K) : (stepS algo kind m h).1.n ≤ K + 1 ∧ (stepS algo kind m h).1.anew ≤ K + 1 := by
  unfold stepS pushS popS enqS deqS anewS
  rw [if_neg hk]
  (repeat' split) <;> (try dsimp only) <;> (repeat' split) <;> (try dsimp only) <;> omega
theorem stepS_nl (algo kind : Int) (m : Mm) (h : Hn) : (stepS algo kind m h).1.nxt.length = m.nxt.length ∧ (stepS algo kind m h).1.val = m.val := by
  unfold stepS countS pushS popS enqS deqS anewS
  (repeat' split) <;> simp <;> (repeat' split) <;> simp
theorem stepP2_ok {algo : Int} {ps : List (List Ak)} {s : Ss} {w K : Nat} (hps : ∀ i (hi : i < ps.length) j (hj : j < ps[i].length), askB [algT algo] ps[i][j] = true) (hw : w < ps.length) (h : SsOk algo ps K s) : SsOk algo ps (K + 1) (stepP2 algo ps s w) := by
  have hw' : w < s.pe.length := by rw [h.pe]; exact hw
  have hp : s.pe.getD w default = s.pe[w] := by simp [hw']
  have hr : ps.getD w [] = ps[w] := by simp [hw]
  have hn := h.n
  have han := h.a
  have hl := h.l
  have he := h.e
  have hq : ∀ {v : Nat} (hv : v < s.pe.length), s.pe[v].op ≠ 0 → ((ps.getD v []).getD s.pe[v].k default).kind = 3 ∨ ((ps.getD v []).getD s.pe[v].k default).kind = 4 → qA algo = true := by
    intro v hv hop hk
    have hv2 : v < ps.length := by rw [← h.pe]; exact hv
    have hlt := (h.each v hv).lt hop
    have hrv : ps.getD v [] = ps[v] := by simp [hv2]
    rw [hrv] at hlt hk
    have := (kindA_of (hps v hv2 _ hlt)).2
    rw [show ps[v].getD s.pe[v].k default = ps[v][s.pe[v].k] by simp [hlt]] at hk
    unfold kindA at this
    unfold qA
    simp only [decide_eq_true_eq]
    omega
  have hset : ∀ (m' : Mm) (q : Sp), MmTo (qA algo) s.m m' → SpOk m' ps[w] (K + 1) q → ∀ v (hv : v < (s.pe.set w q).length), SpOk m' (ps.getD v []) (K + 1) (s.pe.set w q)[v] := by
    intro m' q hto hqo v hv
    have hv' : v < s.pe.length := by simpa using hv
    rw [List.getElem_set]
    split
    · rename_i e; subst e; rw [hr]; exact hqo
    · have ho := h.each v hv'
      exact ⟨ho.k, ho.lt, ho.op, fun e => (ho.h e).to (hq hv' (by omega)) hto, fun e e2 => by have := ho.x e e2; omega⟩
  have hown := h.each w hw'
  unfold stepP2
  rw [hp, hr]
  rw [hr] at hown
  dsimp only
  split
  · refine ⟨h.m, h.c, by omega, by omega, by omega, by omega, h.pe, fun v hv => ?_⟩
    have ho := h.each v hv
    exact ⟨ho.k, ho.lt, ho.op, ho.h, fun e e2 => by have := ho.x e e2; omega⟩
  rename_i h1
  have hk : s.pe[w].k < ps[w].length := by omega
  have ha : ps[w].getD s.pe[w].k default = ps[w][s.pe[w].k] := by simp [hk]
  have hka := kindA_of (hps w hw _ hk)
  rw [← ha] at hka
  split
  · have hto : MmTo (qA algo) s.m { s.m with val := s.m.val ++ [(ps[w].getD s.pe[w].k default).arg], nxt := s.m.nxt ++ [0] } := ⟨by simp, fun _ => grown_snoc _ _, fun _ => .here⟩
    have hm := h.m
    have h2 := hm.two
    refine ⟨⟨by simp [hm.len], by simp; omega, fun i => ?_, by have := hm.top; simp; omega, by have := hm.head; simp; omega, by have := hm.tail; simp; omega, hm.h0, hm.t0⟩, fun e => (h.c e).grown (grown_snoc _ _), by dsimp only; omega, by dsimp only; omega, by simp; omega, by simp; omega, by simp [h.pe], hset _ _ hto ⟨by dsimp only; omega, fun _ => hk, by dsimp only; omega, fun _ => ?_, fun _ _ => by dsimp only; omega⟩⟩
    · have := hm.nx i
      simp only [Mm.nx, List.getD_eq_getElem?_getD, List.getElem?_append, List.length_append, List.length_cons, List.length_nil] at this ⊢
      split
      · omega
      · match i - s.m.nxt.length with
        | 0 => simp
        | j + 1 => simp
    · have hl := hm.len
      exact ⟨by simp [hl], by dsimp only; omega, fun _ => by simp, by simp, by simp, fun _ _ e => absurd rfl e, fun _ => ⟨rfl, rfl⟩, fun _ => by simp, fun _ => by simp, fun _ e => absurd rfl e, fun _ e => by simp at e, fun _ e => absurd rfl e⟩
  split
  · rename_i hop
    have hs := stepS_ok hka.2 h.m h.c (hown.h hop)
    have hnl := (stepS_nl algo (ps[w].getD s.pe[w].k default).kind s.m s.pe[w].h).1
    have hkn : (stepS algo (ps[w].getD s.pe[w].k default).kind s.m s.pe[w].h).1.n ≤ K + 1 ∧ (stepS algo (ps[w].getD s.pe[w].k default).kind s.m s.pe[w].h).1.anew ≤ K + 1 ∧ ((ps[w].getD s.pe[w].k default).kind = 10 → (stepS algo (ps[w].getD s.pe[w].k default).kind s.m s.pe[w].h).2.1.x ≤ K + 1) := by
      by_cases h10 : (ps[w].getD s.pe[w].k default).kind = 10
      · have := countS_n (algo := algo) hn (hown.x hop h10) han
        unfold stepS
        rw [if_pos h10]
        exact ⟨this.1, this.2.1, fun _ => this.2.2⟩
      · have := restS_n (algo := algo) (h := s.pe[w].h) h10 hn han
        exact ⟨this.1, this.2, fun e => absurd e h10⟩
    generalize stepS algo (ps[w].getD s.pe[w].k default).kind s.m s.pe[w].h = r at *
    obtain ⟨m', h', o⟩ := r
    dsimp only at hs hnl hkn ⊢
    refine ⟨hs.mo, hs.ch, hkn.1, hkn.2.1, by dsimp only; omega, by dsimp only; omega, by simp [h.pe], hset _ _ hs.to ?_⟩
    cases o with
    | none => exact ⟨hown.k, fun _ => hk, by dsimp only; omega, fun _ => hs.hn rfl, fun _ e => hkn.2.2 e⟩
    | some v => exact ⟨hown.k, fun _ => hk, by dsimp only; omega, fun e => by simp at e, fun e => by simp at e⟩
  · refine ⟨h.m, h.c, by dsimp only; omega, by dsimp only; omega, by dsimp only; omega, by simp; omega, by simp [h.pe], hset _ _ (MmTo.refl _ _) ⟨by dsimp only; omega, fun e => absurd rfl e, by dsimp only; omega, fun e => by simp at e, fun e => by simp at e⟩⟩
theorem runS2_ok {algo : Int} {ps : List (List Ak)} {tu : List Int} (hps : ∀ i (hi : i < ps.length) j (hj : j < ps[i].length), askB [algT algo] ps[i][j] = true) (htu : ∀ i (hi : i < tu.length), 0 ≤ tu[i] ∧ tu[i] < ps.length) : ∀ k, k ≤ tu.length → SsOk algo ps k (runS2 algo ps tu k)
  | 0, _ => ss0_ok algo ps
  | k + 1, hk => by
    have h := htu k hk
    refine stepP2_ok hps ?_ (runS2_ok hps htu k (by omega))
    rw [show tu.getD k 0 = tu[k] by simp [show k < tu.length from hk]]
    omega
end Go.Proofs.Ytnflkmjfhbfekaa

namespace Go.Proofs.Ytnflkmjfhbfekaa
open Go.RowKit

theorem TL_fact {P : Program} {C : Ctx} {Q : Exit → Act → World → Prop} {E : Slots} {S : List Ent} {l rest : List Oper} {p : Prop} (hS : ∀ w, Mem C w S → p) (h : p → TL P C l Q rest E S) : TL P C l Q rest E S :=
  ⟨fun a w ha hw => (h (hS w hw)).run a w ha hw⟩
def hd0 : Hd := ⟨none, 0, 0⟩
theorem All2.set {α β : Type} {R : α → β → Prop} {a : α} {b : β} (h : R a b) : ∀ {l : List α} {m : List β} (j : Nat), All2 R l m → All2 R (l.set j a) (m.set j b)
  | _, _, _, .nil => by simpa using All2.nil
  | _, _, 0, .cons _ t => .cons h t
  | _, _, j + 1, .cons h' t => .cons h' (All2.set h j t)
theorem pairwise_set {α : Type} {R : α → α → Prop} {a : α} : ∀ {l : List α} (j : Nat), l.Pairwise R → (∀ x ∈ l, R a x) → (∀ x ∈ l, R x a) → (l.set j a).Pairwise R
  | [], _, _, _, _ => by simp
  | x :: l, 0, h, h1, _ => by
    rw [List.set_cons_zero, List.pairwise_cons]
    exact ⟨fun y hy => h1 y (by simp [hy]), (List.pairwise_cons.1 h).2⟩
  | x :: l, j + 1, h, h1, h2 => by
    rw [List.set_cons_succ, List.pairwise_cons]
    obtain ⟨q1, q2⟩ := List.pairwise_cons.1 h
    refine ⟨fun y hy => ?_, pairwise_set j q2 (fun y hy => h1 y (by simp [hy])) (fun y hy => h2 y (by simp [hy]))⟩
    rcases List.mem_or_eq_of_mem_set hy with hy | rfl
    · exact q1 y hy
    · exact h2 x (by simp)
section
variable {C : Ctx} {w : World} {S S1 S' : List Ent} {α : Type} {enc : α → List Value} {M e : Nat} {hs : List Hd} {rows : List (List α)} {l : List α} {A : Option Addr} {c j : Nat}
theorem hd0_blk : hd0.v.ownBlock = none := rfl
theorem set_has {k : Nat} {h : Hd} (hm : ∃ g ∈ hs.set j h, g.v.ownBlock = some k) : h.v.ownBlock = some k ∨ ∃ i, i ≠ j ∧ ∃ hi : i < hs.length, hs[i].v.ownBlock = some k := by
  obtain ⟨g, hg, hk⟩ := hm
  obtain ⟨i, hi, rfl⟩ := List.mem_iff_getElem.1 hg
  rw [List.length_set] at hi
  by_cases e : i = j
  · subst e
    rw [List.getElem_set_self] at hk; exact .inl hk
  · rw [List.getElem_set_ne (fun e' => e e'.symm)] at hk
    exact .inr ⟨i, e, hi, hk⟩
/-- a row is taken out -/
theorem Mem.takeRow (hj : j < hs.length) (hj' : j < rows.length) (hu : Upd S (entInner enc M e hs rows) (entInner enc M e (hs.set j hd0) (rows.set j [])) S') (hw : Mem C w S) : Mem C w (entOwn enc M e hs[j].a hs[j].c rows[j] :: S') := by
  obtain ⟨X, Y, rfl, rfl⟩ := hu.form
  have hap := hw.apart
  rw [List.pairwise_append, List.pairwise_cons] at hap
  obtain ⟨hX, ⟨hY1, hY⟩, hXY⟩ := hap
  have hin := hw.holds (entInner enc M e hs rows) (by simp)
  have hrow := forall2_at hin.1.1 j hj hj'
  have hv : hs[j].v = .slice hs[j].a rows[j].length hs[j].c := by rw [← hrow.1]; rfl
  have hsub : ∀ k, (entInner enc M e (hs.set j hd0) (rows.set j [])).has k → (entInner enc M e hs rows).has k ∧ hs[j].v.ownBlock ≠ some k := by
    intro k hk
    rcases set_has hk with h | ⟨i, hi, hil, h⟩
    · rw [hd0_blk] at h; cases h
    · refine ⟨⟨_, List.getElem_mem hil, h⟩, fun hk' => ?_⟩
      have hp := List.pairwise_iff_getElem.1 hin.1.2
      rcases Nat.lt_or_gt_of_ne hi with hlt | hlt
      · exact hp i j hil hj hlt k h hk'
      · exact hp j i hj hil hlt k hk' h
  have hown : ∀ k, (entOwn enc M e hs[j].a hs[j].c rows[j]).has k → (entInner enc M e hs rows).has k := by
    intro k hk
    refine ⟨hs[j], List.getElem_mem hj, ?_⟩
    rw [hv]; exact hk
  have hnew : Inner enc M e w (hs.set j hd0) (rows.set j []) := by
    refine ⟨All2.set ⟨rfl, Own.nil w 0⟩ j hin.1.1, pairwise_set j hin.1.2 (fun x _ k hk => ?_) (fun x _ k _ => ?_)⟩
    · rw [hd0_blk] at hk; cases hk
    · rw [hd0_blk]; simp
  refine ⟨hw.keeps, fun f hf => ?_, ?_⟩
  · rcases List.mem_cons.1 hf with rfl | hf
    · refine ⟨?_, fun k hk => hin.2 k (hown k hk)⟩
      show Own enc M e w 0 (.slice hs[j].a rows[j].length hs[j].c) rows[j]
      rw [← hv]; exact hrow.2
    · rcases List.mem_append.1 hf with hf | hf
      · exact hw.holds f (by simp [hf])
      · rcases List.mem_cons.1 hf with rfl | hf
        · exact ⟨hnew, fun k hk => hin.2 k (hsub k hk).1⟩
        · exact hw.holds f (by simp [hf])
  · refine List.pairwise_cons.2 ⟨fun f hf k hk => ?_, ?_⟩
    · rcases List.mem_append.1 hf with hf | hf
      · exact fun hk' => hXY f hf (entInner enc M e hs rows) List.mem_cons_self k hk' (hown k hk)
      · rcases List.mem_cons.1 hf with rfl | hf
        · intro hk'
          refine (hsub k hk').2 ?_
          rw [hv]; exact hk
        · exact hY1 f hf k (hown k hk)
    · rw [List.pairwise_append, List.pairwise_cons]
      refine ⟨hX, ⟨fun f hf k hk => hY1 f hf k (hsub k hk).1, hY⟩, fun f hf g hg k hk => ?_⟩
      rcases List.mem_cons.1 hg with rfl | hg
      · exact fun hk' => hXY f hf (entInner enc M e hs rows) List.mem_cons_self k hk (hsub k hk').1
      · exact hXY f hf g (by simp [hg]) k hk
/-- a row is put in the place of another one -/
theorem Mem.putRow (hp : Pick S (entOwn enc M e A c l) S1) (hu : Upd S1 (entInner enc M e hs rows) (entInner enc M e (hs.set j ⟨A, l.length, c⟩) (rows.set j l)) S') (hw : Mem C w S) : Mem C w S' := by
  have h1 := hw.pick hp
  obtain ⟨X, Y, rfl, rfl⟩ := hu.form
  have hap := List.pairwise_cons.1 h1.apart
  have hap2 := hap.2
  rw [List.pairwise_append, List.pairwise_cons] at hap2
  obtain ⟨hX, ⟨hY1, hY⟩, hXY⟩ := hap2
  have ho := h1.holds _ List.mem_cons_self
  have hin := h1.holds (entInner enc M e hs rows) (by simp)
  have hfar : ∀ k, (∃ h ∈ hs, h.v.ownBlock = some k) → (Value.slice A l.length c).ownBlock ≠ some k := fun k hk hk' => hap.1 (entInner enc M e hs rows) (by simp) k hk' hk
  have hhas : ∀ k, (entInner enc M e (hs.set j ⟨A, l.length, c⟩) (rows.set j l)).has k → (entInner enc M e hs rows).has k ∨ (entOwn enc M e A c l).has k := by
    intro k hk
    rcases set_has hk with h | ⟨i, _, hil, h⟩
    · exact .inr h
    · exact .inl ⟨_, List.getElem_mem hil, h⟩
  have hnew : Inner enc M e w (hs.set j ⟨A, l.length, c⟩) (rows.set j l) := by
    refine ⟨All2.set ⟨rfl, ho.1⟩ j hin.1.1, pairwise_set j hin.1.2 (fun x hx k hk hk' => hfar k ⟨x, hx, hk'⟩ hk) (fun x hx k hk => hfar k ⟨x, hx, hk⟩)⟩
  refine ⟨h1.keeps, fun f hf => ?_, ?_⟩
  · rcases List.mem_append.1 hf with hf | hf
    · exact h1.holds f (by simp [hf])
    · rcases List.mem_cons.1 hf with rfl | hf
      · refine ⟨hnew, fun k hk => ?_⟩
        rcases hhas k hk with h | h
        · exact hin.2 k h
        · exact ho.2 k h
      · exact h1.holds f (by simp [hf])
  · rw [List.pairwise_append, List.pairwise_cons]
    refine ⟨hX, ⟨fun f hf k hk => ?_, hY⟩, fun f hf g hg k hk => ?_⟩
    · rcases hhas k hk with h | h
      · exact hY1 f hf k h
      · exact hap.1 f (by simp [hf]) k h
    · rcases List.mem_cons.1 hg with rfl | hg
      · intro hk'
        rcases hhas k hk' with h | h
        · exact hXY f hf _ List.mem_cons_self k hk h
        · exact hap.1 f (by simp [hf]) k h hk
      · exact hXY f hf g (by simp [hg]) k hk
/-- rows that all are empty -/
theorem Mem.emptyRows (enc : α → List Value) (M e n : Nat) (hw : Mem C w S) : Mem C w (entInner enc M e (List.replicate n hd0) (List.replicate n []) :: S) := by
  have hno : ∀ k, ¬ (entInner enc M e (List.replicate n hd0) (List.replicate n [])).has k := by
    rintro k ⟨h, hm, hk⟩
    rw [(List.mem_replicate.1 hm).2, hd0_blk] at hk; cases hk
  refine hw.fresh (Below.refl _ _) (fun g hg => (hno g hg).elim) ⟨?_, ?_⟩
  · induction n with
    | zero => exact .nil
    | succ n ih => exact .cons ⟨rfl, Own.nil w 0⟩ (ih fun k hk => hno k (by obtain ⟨h, hm, hk⟩ := hk; exact ⟨h, by rw [List.mem_replicate] at hm ⊢; exact ⟨by omega, hm.2⟩, hk⟩))
  · rw [List.pairwise_replicate]
    right
    intro k hk; rw [hd0_blk] at hk; cases hk
theorem Mem.newBlkF {b : Nat} {R : List Ent} (hw : Mem C w (S1 ++ R)) (hF : b ∉ C.F) (hb : b < C.w0.heap.size) : b ∉ blks S1 := fun hm => by
  obtain ⟨e, he, hg⟩ := mem_blks.1 hm
  rcases ((hw.holds e (by simp [he])).2 b hg).2 with h | h
  · exact hF h
  · omega
theorem Mem.rdAwayF {A : Option Addr} {ls : List α} (hw : Mem C w S) (h : RdE enc M C.w0 A ls) (hF : ∀ b o, A = some ⟨b, o, Option.none⟩ → b ∉ C.F) : RdE enc M w A ls := by
  intro j x hj
  obtain ⟨b, o, h1, h2, h3⟩ := h j x hj
  exact ⟨b, o, h1, Nat.lt_of_lt_of_le h2 hw.keeps.size, fun k v hk => hw.old h2 (hF b o h1) (h3 k v hk)⟩
/-- the last item is left off -/
theorem Mem.ownLast {g et : Nat} {ls : List α} {x : α} (hu : Upd S (entOwn enc M et (some ⟨g, 0, Option.none⟩) c (ls ++ [x])) (entOwn enc M et (some ⟨g, 0, Option.none⟩) c ls) S') (hM : ∀ x, (enc x).length = M) (hw : Mem C w S) : Mem C w S' := by
  have ho := hw.holds _ hu.mem
  have h : Own enc M et w 0 (.slice (some ⟨g, 0, Option.none⟩) (ls ++ [x]).length c) (ls ++ [x]) := ho.1
  refine hw.upd hu (Keeps.refl [] w) (by simp) (fun k hk => ?_) ?_
  · have : some g = some k := hk
    cases this
    exact ⟨(ho.2 g rfl).1, .inl rfl⟩
  · obtain ⟨g', cap, cur, hv, hbb, hg, hnc, hcm, hcs, htake⟩ := h.2.resolve_left (by simp)
    simp only [Value.slice.injEq, Option.some.injEq, Addr.mk.injEq, and_true, true_and] at hv
    obtain ⟨rfl, rfl⟩ := hv
    rw [List.length_append, List.length_singleton] at hnc
    refine ⟨flat_len hM _, .inr ⟨g, c, cur, rfl, hbb, hg, by omega, hcm, hcs, ?_⟩⟩
    have e1 : (ls ++ [x]).flatMap enc = ls.flatMap enc ++ enc x := by rw [List.flatMap_append]; simp
    rw [e1, List.length_append, List.length_singleton] at htake
    have h2 := congrArg (List.take (ls.length * M)) htake
    rw [List.take_take, List.take_append_of_le_length (by rw [flat_len hM]; omega)] at h2
    rw [List.take_of_length_le (l := ls.flatMap enc) (by rw [flat_len hM]; omega)] at h2
    rw [← h2, Nat.min_eq_left]
    rw [Nat.add_mul]; omega
end
end Go.Proofs.Ytnflkmjfhbfekaa

namespace Go.Proofs.Ytnflkmjfhbfekaa
open Go.RowKit

class PtrT (P : Program) (t : Nat) : Prop where
  und : P.underlying t = some (.pointer (P.pointee t))
section
variable {P : Program} {C : Ctx} {E : Slots} {S : List Ent} {ty ty3 t : Nat} {x y : Operand} {p : Option Addr} [hs : PtrT P t]
theorem QS_eqlPN (hx : evo E x = some (.pointer p)) (hy : evo E y = some (.pointer none)) : QS P C E S (.binOp .eql t x y ty3) ty (.bool p.isNone) :=
  QS.of (fun a w ha _ => by
    have h2 := run_eql_pointer_nil (P := P) w t p hs.und
    have hg : (eqGuard .eql t x y (.pointer p) (.pointer none)).run P w = .ok () w := by
      unfold eqGuard
      simp [run_underlying hs.und]
    simp only [execOp, ha.evo hx, ha.evo hy, Sem.run_bind, hg, Result.andThen_ok, h2]; rfl)
theorem QS_neqPN (hx : evo E x = some (.pointer p)) (hy : evo E y = some (.pointer none)) : QS P C E S (.binOp .neq t x y ty3) ty (.bool (!p.isNone)) :=
  QS.of (fun a w ha _ => by
    have h2 := run_neq_pointer_nil (P := P) w t p hs.und
    have hg : (eqGuard .neq t x y (.pointer p) (.pointer none)).run P w = .ok () w := by
      unfold eqGuard
      simp [run_underlying hs.und]
    simp only [execOp, ha.evo hx, ha.evo hy, Sem.run_bind, hg, Result.andThen_ok, h2]; rfl)
theorem QS_eqlPS {ad : Addr} (hx : evo E x = some (.pointer (some ad))) (hy : evo E y = some (.pointer none)) : QS P C E S (.binOp .eql t x y ty3) ty (.bool false) := QS_eqlPN hx hy
theorem QS_neqPS {ad : Addr} (hx : evo E x = some (.pointer (some ad))) (hy : evo E y = some (.pointer none)) : QS P C E S (.binOp .neq t x y ty3) ty (.bool true) := QS_neqPN hx hy
theorem QS_eqlPZ (hx : evo E x = some (.pointer none)) (hy : evo E y = some (.pointer none)) : QS P C E S (.binOp .eql t x y ty3) ty (.bool true) := QS_eqlPN hx hy
theorem QS_neqPZ (hx : evo E x = some (.pointer none)) (hy : evo E y = some (.pointer none)) : QS P C E S (.binOp .neq t x y ty3) ty (.bool false) := QS_neqPN hx hy
end
end Go.Proofs.Ytnflkmjfhbfekaa

namespace Go.Proofs.Ytnflkmjfhbfekaa
open Go.RowKit

theorem Upd.form_of (A B : List Ent) (e e' : Ent) : Upd (A ++ e :: B) e e' (A ++ e' :: B) := by
  induction A with
  | nil => exact Upd.here _ _ _
  | cons a A ih => exact Upd.there _ ih
section
variable {P : Program} {C : Ctx} {E : Slots} {S S' S1 S1' : List Ent} {o : Oper} {α : Type} {enc : α → List Value} {M e : Nat} {hs : List Hd} {rows : List (List α)}
/-- memory told in other words, ahead of an effect and behind it -/
theorem ES.told (h : ES P C E S1 o (fun E' T => E' = E ∧ T = S1')) (h1 : ∀ w, Mem C w S → Mem C w S1) (h2 : ∀ w, Mem C w S1' → Mem C w S') : ES P C E S o (fun E' T => E' = E ∧ T = S') :=
  fun a w K Q ha hw hK => h a w K Q ha (h1 w hw) fun a' w' E' T hN ha' hw' => by
    obtain ⟨rfl, rfl⟩ := hN
    exact hK a' w' _ S' ⟨rfl, rfl⟩ ha' (h2 w' hw')
theorem Lds.inner {g i j off s : Nat} {v : Value} [OneCell P s] (hm : entInner enc M e hs rows ∈ S) (hM : ∀ x, (enc x).length = M) (hj : j < hs.length) (hj2 : j < rows.length) (ha : hs[j].a = some ⟨g, 0, none⟩) (hi : i < rows[j].length) (hv : (enc rows[j][i])[off]? = some v) : Lds P C S s ⟨g, i * M + off, none⟩ v :=
  Lds.one fun w hw => by
    have h := (hw.innerRd hm hM hj hj2).2
    obtain ⟨b, o, hb, _, hc⟩ := h i rows[j][i] (by simp [hi])
    rw [ha] at hb
    cases hb
    have := hc off v hv
    rwa [Nat.zero_add] at this
theorem ES_storeInner {g i j off s ty : Nat} {v : Value} {xx : α} {x y : Operand} {ps : String} {af : Array Edge} {g0 : Option (Nat × Bool)} [OneCell P s] (hx : evo E x = some (.pointer (some ⟨g, i * M + off, none⟩))) (hy : evo E y = some v)
    (hu : Upd S (entInner enc M e hs rows) (entInner enc M e hs (rows.set j (rows.getD j [] |>.set i xx))) S') (hM : ∀ x, (enc x).length = M) (hl : hs.length = rows.length) (hn : ∀ (h1 : j < hs.length) (h2 : j < rows.length), hs[j].n = rows[j].length) (hj : j < hs.length) (hj2 : j < rows.length) (ha : hs[j].a = some ⟨g, 0, none⟩) (hi : i < rows[j].length) (hoff : off < M) (he : enc xx = (enc rows[j][i]).set off v) (h1 : v.oneCell' = true) :
    ES P C E S ⟨none, .store s x y, ty, ps, af, g0⟩ (fun E' T => E' = E ∧ T = S') := by
  obtain ⟨A, B, rfl, rfl⟩ := hu.form
  have hg : rows.getD j [] = rows[j] := by simp [hj2]
  rw [hg]
  refine ES.told (S1 := entOwn enc M e (some ⟨g, 0, none⟩) hs[j].c rows[j] :: (A ++ entInner enc M e (hs.set j hd0) (rows.set j []) :: B)) (S1' := entOwn enc M e (some ⟨g, 0, none⟩) hs[j].c (rows[j].set i xx) :: (A ++ entInner enc M e (hs.set j hd0) (rows.set j []) :: B))
    (ES_storeOwn hx hy (Upd.here _ _ _) hM (List.getElem?_eq_getElem hi) hoff he h1) (fun w hw => ?_) (fun w hw => ?_)
  · have := Mem.takeRow hj hj2 (Upd.form_of A B _ _) hw
    rwa [ha] at this
  · have h2 := Mem.putRow (A := some ⟨g, 0, none⟩) (c := hs[j].c) (l := rows[j].set i xx) (j := j) (Pick.here _ _) (Upd.form_of A B _ _) hw
    rw [List.set_set, List.set_set, List.length_set] at h2
    have he2 : hs.set j ⟨some ⟨g, 0, none⟩, rows[j].length, hs[j].c⟩ = hs := by
      rw [← hn hj hj2, ← ha]
      exact List.set_getElem_self hj
    rwa [he2] at h2
end
/-! nodes -/
structure Nd where
  v : Int
  nx : Option Addr
def ndEnc (n : Nd) : List Value := [.int .i64 n.v, .pointer n.nx]
def ptr (G : List Nat) : Nat → Option Addr
  | 0 => none
  | i + 1 => some ⟨G.getD i 0, 0, none⟩
def ndHs (G : List Nat) : List Hd := G.map fun g => ⟨some ⟨g, 0, none⟩, 1, 1⟩
def ndRow (G : List Nat) (m : Mm) (j : Nat) : List Nd := [⟨m.va (j + 1), ptr G (m.nx (j + 1))⟩]
def ndRows (G : List Nat) (m : Mm) : List (List Nd) := (List.range G.length).map (ndRow G m)
def entNd (t : Nat) (G : List Nat) (m : Mm) : Ent := entInner ndEnc 2 t (ndHs G) (ndRows G m)
theorem ndHs_len (G : List Nat) : (ndHs G).length = G.length := by simp [ndHs]
theorem ndRows_len (G : List Nat) (m : Mm) : (ndRows G m).length = G.length := by simp [ndRows]
theorem ndHs_at {G : List Nat} {j : Nat} (h : j < (ndHs G).length) : (ndHs G)[j] = ⟨some ⟨G.getD j 0, 0, none⟩, 1, 1⟩ := by
  have : j < G.length := by rwa [ndHs_len] at h
  simp [ndHs, this]
theorem ndRows_at {G : List Nat} {m : Mm} {j : Nat} (h : j < (ndRows G m).length) : (ndRows G m)[j] = [⟨m.va (j + 1), ptr G (m.nx (j + 1))⟩] := by simp [ndRows, ndRow]
theorem ndRows_set {G : List Nat} {m : Mm} {j v : Nat} (hj : j < G.length) (hl : j + 1 < m.nxt.length) : ndRows G { m with nxt := m.nxt.set (j + 1) v } = (ndRows G m).set j [⟨m.va (j + 1), ptr G v⟩] := by
  apply List.ext_getElem
  · simp [ndRows]
  · intro i h1 h2
    have hi : i < G.length := by rwa [ndRows_len] at h1
    rw [List.getElem_set, ndRows_at h1]
    split
    · rename_i e; subst e
      simp [Mm.va, Mm.nx, hl]
    · rename_i e
      rw [ndRows_at (by rw [ndRows_len]; exact hi)]
      have : j + 1 ≠ i + 1 := by omega
      simp only [Mm.va, Mm.nx, List.getD_eq_getElem?_getD, List.getElem?_set_ne this]
section
variable {P : Program} {C : Ctx} {E : Slots} {S S' : List Ent} {G : List Nat} {m : Mm} {s t j : Nat}
theorem Lds.ndVal [OneCell P s] (hm : entNd t G m ∈ S) (hj : j < G.length) : Lds P C S s ⟨G.getD j 0, 0, none⟩ (.int .i64 (m.va (j + 1))) := by
  have h1 : j < (ndHs G).length := by rw [ndHs_len]; exact hj
  have h2 : j < (ndRows G m).length := by rw [ndRows_len]; exact hj
  have := Lds.inner (P := P) (C := C) (S := S) (s := s) (i := 0) (off := 0) (v := .int .i64 (m.va (j + 1))) (g := G.getD j 0) hm (fun _ => rfl) h1 h2 (by rw [ndHs_at h1]) (by rw [ndRows_at h2]; exact Nat.zero_lt_one) (by simp [ndRows_at h2, ndEnc])
  rwa [Nat.zero_mul, Nat.zero_add] at this
theorem Lds.ndNext [OneCell P s] (hm : entNd t G m ∈ S) (hj : j < G.length) : Lds P C S s ⟨G.getD j 0, 1, none⟩ (.pointer (ptr G (m.nx (j + 1)))) := by
  have h1 : j < (ndHs G).length := by rw [ndHs_len]; exact hj
  have h2 : j < (ndRows G m).length := by rw [ndRows_len]; exact hj
  have := Lds.inner (P := P) (C := C) (S := S) (s := s) (i := 0) (off := 1) (v := .pointer (ptr G (m.nx (j + 1)))) (g := G.getD j 0) hm (fun _ => rfl) h1 h2 (by rw [ndHs_at h1]) (by rw [ndRows_at h2]; exact Nat.zero_lt_one) (by simp [ndRows_at h2, ndEnc])
  rwa [Nat.zero_mul, Nat.zero_add] at this
theorem ES_storeNx {v ty : Nat} {x y : Operand} {ps : String} {af : Array Edge} {g0 : Option (Nat × Bool)} [OneCell P s] (hx : evo E x = some (.pointer (some ⟨G.getD j 0, 1, none⟩))) (hy : evo E y = some (.pointer (ptr G v)))
    (hu : Upd S (entNd t G m) (entNd t G { m with nxt := m.nxt.set (j + 1) v }) S') (hj : j < G.length) (hl : j + 1 < m.nxt.length) : ES P C E S ⟨none, .store s x y, ty, ps, af, g0⟩ (fun E' T => E' = E ∧ T = S') := by
  have h1 : j < (ndHs G).length := by rw [ndHs_len]; exact hj
  have h2 : j < (ndRows G m).length := by rw [ndRows_len]; exact hj
  have e1 : (ndRows G m).getD j [] = (ndRows G m)[j] := by simp [h2]
  refine ES_storeInner (enc := ndEnc) (M := 2) (e := t) (hs := ndHs G) (rows := ndRows G m) (i := 0) (off := 1) (j := j) (g := G.getD j 0) (xx := ⟨m.va (j + 1), ptr G v⟩) (v := .pointer (ptr G v)) (by rw [Nat.zero_mul, Nat.zero_add]; exact hx) hy ?_ (fun _ => rfl) (by rw [ndHs_len, ndRows_len]) (fun h3 h4 => by rw [ndHs_at h3, ndRows_at h4]; rfl) h1 h2 (by rw [ndHs_at h1]) (by rw [ndRows_at h2]; exact Nat.zero_lt_one) (by decide) ?_ rfl
  · have e2 : (ndRows G m).set j ((ndRows G m).getD j [] |>.set 0 ⟨m.va (j + 1), ptr G v⟩) = ndRows G { m with nxt := m.nxt.set (j + 1) v } := by
      rw [e1, ndRows_at h2, ndRows_set hj hl]; rfl
    rw [e2]
    exact hu
  · simp [ndRows_at h2, ndEnc]
end
section
variable {P : Program} {C : Ctx} {E : Slots} {S S' : List Ent} {G : List Nat} {m : Mm} {t ty ty3 tp i j : Nat} {x y : Operand} {w : World}
/-- two nodes, two places -/
theorem Mem.ndApart (hw : Mem C w S) (hm : entNd t G m ∈ S) : ∀ i j, i < G.length → j < G.length → G.getD i 0 = G.getD j 0 → i = j := by
  intro i j hi hj he
  have h := (hw.holds _ hm).1
  have hp : (ndHs G).Pairwise fun h g => ∀ k, h.v.ownBlock = some k → g.v.ownBlock ≠ some k := h.2
  rw [List.pairwise_iff_getElem] at hp
  have h1 : i < (ndHs G).length := by rw [ndHs_len]; exact hi
  have h2 : j < (ndHs G).length := by rw [ndHs_len]; exact hj
  rcases Nat.lt_trichotomy i j with hlt | rfl | hlt
  · exfalso
    refine hp i j h1 h2 hlt (G.getD i 0) ?_ ?_
    · rw [ndHs_at h1]; rfl
    · rw [ndHs_at h2, he]; rfl
  · rfl
  · exfalso
    refine hp j i h2 h1 hlt (G.getD j 0) ?_ ?_
    · rw [ndHs_at h2]; rfl
    · rw [ndHs_at h1, he]; rfl
theorem Mem.ndHeap (hw : Mem C w S) (hm : entNd t G m ∈ S) (hj : j < G.length) : ∃ cs e, w.heap[G.getD j 0]? = some (.cells cs e (0, 0)) := by
  have h := (hw.holds _ hm).1
  have h1 : j < (ndHs G).length := by rw [ndHs_len]; exact hj
  have h2 : j < (ndRows G m).length := by rw [ndRows_len]; exact hj
  have h3 := (forall2_at h.1 j h1 h2).2
  rw [ndHs_at h1] at h3
  rcases h3.2 with ⟨hn, _⟩ | ⟨g, cap, cur, hv, _, hg, _⟩
  · simp [Hd.v] at hn
  · simp [Hd.v] at hv
    obtain ⟨hv1, _⟩ := hv
    simp only [List.getD_eq_getElem?_getD]
    rw [hv1]
    exact ⟨_, _, hg⟩
/-- a pointer type of something that has a size -/
class PtrZ (P : Program) (t : Nat) : Prop where
  und : ∃ e n, P.underlying t = some (.pointer e) ∧ (∀ w, (sizeOf e).run P w = .ok n w) ∧ n ≠ 0
theorem run_equalNd [h : PtrZ P tp] (hw : Mem C w S) (hm : entNd t G m ∈ S) (hi : i ≤ G.length) (hj : j ≤ G.length) : (Op.equal tp (.pointer (ptr G i)) (.pointer (ptr G j))).run P w = .ok (decide (i = j)) w := by
  obtain ⟨e, ti, hu, hte, hsz⟩ := h.und
  have key : ∀ d : Nat, (Op.equalIn (d + 1) tp (.pointer (ptr G i)) (.pointer (ptr G j))).run P w = .ok (decide (i = j)) w := fun d => by
    match i, j with
    | 0, 0 => simp [Op.equalIn, run_underlying hu, ptr]
    | i + 1, 0 => simp [Op.equalIn, run_underlying hu, ptr]
    | 0, j + 1 => simp [Op.equalIn, run_underlying hu, ptr]
    | i + 1, j + 1 =>
      by_cases he : i = j
      · subst he
        rw [decide_eq_true rfl]
        simp only [ptr]
        simp [Op.equalIn, run_underlying hu, hte, hsz, run_sameAddr_same]
      · rw [decide_eq_false (by omega)]
        obtain ⟨c1, t1, h1⟩ := hw.ndHeap hm (j := i) (by omega)
        obtain ⟨c2, t2, h2⟩ := hw.ndHeap hm (j := j) (by omega)
        have hne : (⟨G.getD i 0, 0, none⟩ : Addr) ≠ ⟨G.getD j 0, 0, none⟩ := fun e => he (hw.ndApart hm i j (by omega) (by omega) (congrArg Addr.block e))
        have h3 := run_sameAddr_other (P := P) w hne h1 h2
        simp only [ptr]
        generalize (⟨G.getD i 0, 0, none⟩ : Addr) = p1 at *
        generalize (⟨G.getD j 0, 0, none⟩ : Addr) = p2 at *
        simp [Op.equalIn, run_underlying hu, hte, hsz, h3]
  exact key 9999
theorem QS_eqlNd [h : PtrZ P tp] (hm : entNd t G m ∈ S) (hi : i ≤ G.length) (hj : j ≤ G.length) (hx : evo E x = some (.pointer (ptr G i))) (hy : evo E y = some (.pointer (ptr G j))) : QS P C E S (.binOp .eql tp x y ty3) ty (.bool (decide (i = j))) :=
  QS.of (fun a w ha hw => by
    obtain ⟨e, ti, hu, _, _⟩ := h.und
    have h2 := run_equalNd (P := P) (tp := tp) hw hm hi hj
    have hg : (eqGuard .eql tp x y (.pointer (ptr G i)) (.pointer (ptr G j))).run P w = .ok () w := by
      unfold eqGuard
      simp [run_underlying hu]
    simp only [execOp, ha.evo hx, ha.evo hy, Sem.run_bind, hg, Result.andThen_ok, binOp]
    rw [h2]; rfl)
theorem QS_neqNd [h : PtrZ P tp] (hm : entNd t G m ∈ S) (hi : i ≤ G.length) (hj : j ≤ G.length) (hx : evo E x = some (.pointer (ptr G i))) (hy : evo E y = some (.pointer (ptr G j))) : QS P C E S (.binOp .neq tp x y ty3) ty (.bool (!decide (i = j))) :=
  QS.of (fun a w ha hw => by
    obtain ⟨e, ti, hu, _, _⟩ := h.und
    have h2 := run_equalNd (P := P) (tp := tp) hw hm hi hj
    have hg : (eqGuard .neq tp x y (.pointer (ptr G i)) (.pointer (ptr G j))).run P w = .ok () w := by
      unfold eqGuard
      simp [run_underlying hu]
    simp only [execOp, ha.evo hx, ha.evo hy, Sem.run_bind, hg, Result.andThen_ok, binOp]
    rw [h2]; rfl)
theorem ptr_none (G : List Nat) (v : Nat) : (ptr G v).isNone = decide (v = 0) := by
  cases v with
  | zero => rfl
  | succ n => simp [ptr]
theorem QS_eqlNdN [hs : PtrT P tp] {v : Nat} (hx : evo E x = some (.pointer (ptr G v))) (hy : evo E y = some (.pointer none)) : QS P C E S (.binOp .eql tp x y ty3) ty (.bool (decide (v = 0))) := by
  rw [← ptr_none G v]; exact QS_eqlPN hx hy
theorem QS_neqNdN [hs : PtrT P tp] {v : Nat} (hx : evo E x = some (.pointer (ptr G v))) (hy : evo E y = some (.pointer none)) : QS P C E S (.binOp .neq tp x y ty3) ty (.bool (!decide (v = 0))) := by
  rw [← ptr_none G v]; exact QS_neqPN hx hy
end
end Go.Proofs.Ytnflkmjfhbfekaa
