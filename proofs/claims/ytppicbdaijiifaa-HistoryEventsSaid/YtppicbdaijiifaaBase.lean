/- Base lemmas on memory: what the walks of this seat share. No condition. -/
import Derived.WalkKit
import Derived.WalkSpells
import Derived.WalkLawsBesides
import Derived.Laws.Rows
import Derived.Lib.Hide
import Derived.Deep.WholeRow
import Derived.Deep.QuietTactic
import Derived.BigQuiet
set_option linter.unusedSimpArgs false
set_option linter.unusedVariables false
set_option linter.unusedSectionVars false
set_option linter.unnecessarySimpa false
namespace Go.Proofs.Ytppicbdaijiifaa
open Go.RowKit

/-- block g is just the cells cs of element type t, none frozen -/
def Blk (w : World) (g : Nat) (t : TypeId) (cs : Array Value) : Prop := w.heap[g]? = some (.cells cs t (0, 0))

section
variable {w w' : World} {g : Nat} {t : TypeId} {cs : Array Value}
theorem Blk.lt (h : Blk w g t cs) : g < w.heap.size := by
  rcases Nat.lt_or_ge g w.heap.size with hlt | hge
  · exact hlt
  · unfold Blk at h; rw [Array.getElem?_eq_none hge] at h; cases h
theorem Blk.cell (h : Blk w g t cs) (i : Nat) : w.cell? ⟨g, i, none⟩ = cs[i]? := cell_of_row w g i cs t (0, 0) h
theorem Blk.frozen (h : Blk w g t cs) (i : Nat) : w.frozen? ⟨g, i, none⟩ = false := by
  unfold Blk at h
  simp [World.frozen?, h]
theorem Blk.new (w : World) (t : TypeId) (cs : Array Value) : Blk (w.alloc (.cells cs t)) w.heap.size t cs := heap_alloc_new w _
theorem Blk.new' (w : World) (t : TypeId) (cs : Array Value) (n : Nat) (h : n = w.heap.size) : Blk (w.alloc (.cells cs t)) n t cs := by subst h; exact heap_alloc_new w _
theorem Blk.drew (h : Blk w g t cs) : Blk w.drew g t cs := h
theorem Blk.drewN (h : Blk w g t cs) (n : Nat) : Blk (w.drewN n) g t cs := h
theorem Blk.alloc (h : Blk w g t cs) (o : Obj) : Blk (w.alloc o) g t cs := (Below.heap_alloc w o g h.lt).trans h
theorem Blk.set_ (h : Blk w g t cs) (i : Nat) (u : Value) : Blk (w.setCell ⟨g, i, none⟩ u) g t (cs.setIfInBounds i u) := by
  unfold Blk at h ⊢
  simp [World.setCell, Array.getElem?_modify, h]
theorem Blk.far (h : Blk w g t cs) {p : Addr} (hp : g ≠ p.block) (u : Value) : Blk (w.setCell p u) g t cs := (Below.heap_setCell w p u g hp).trans h
theorem Blk.carry (h : Blk w g t cs) (hb : Below w.heap.size w w') : Blk w' g t cs := (hb.block g h.lt).trans h
theorem Blk.below {B : Nat} (h : Blk w g t cs) (hb : Below B w w') (hg : g < B) : Blk w' g t cs := (hb.block g hg).trans h
end

theorem below_drewN' {B : Nat} {a w : World} (h : Below B a w) (n : Nat) : Below B a (w.drewN n) := ⟨h.os, h.tape, h.output, h.size, h.block⟩

/-- the cells of a block (none: it is no row of cells that may be written) -/
def rowOf (w : World) (g : Nat) : Array Value := match w.heap[g]? with | some (.cells cs _ (0, 0)) => cs | _ => #[]
theorem Blk.rowOf {w : World} {g : Nat} {t : TypeId} {cs : Array Value} (h : Blk w g t cs) : rowOf w g = cs := by
  unfold Blk at h
  simp [Go.Proofs.Ytppicbdaijiifaa.rowOf, h]
def ptrBlk : Value → Nat
  | .pointer (some a) => a.block
  | _ => 0
def isRow (w : World) (n : Nat) : Value → Bool
  | .pointer (some ⟨g, 0, none⟩) => (rowOf w g).size == n
  | _ => false
def aggOf : Value → Array Value
  | .agg cs => cs
  | _ => #[]
def oneCells (cs : Array Value) : Bool := cs.all (·.oneCell')
@[go_sem] theorem oneCells_list (l : List Value) : oneCells l.toArray = l.all (·.oneCell') := by simp [oneCells]
@[go_sem] theorem one_int (k : IntKind) (n : Int) : (Value.int k n).oneCell' = true := rfl
@[go_sem] theorem one_bool (b : Bool) : (Value.bool b).oneCell' = true := rfl
@[go_sem] theorem one_ptr (a : Option Addr) : (Value.pointer a).oneCell' = true := rfl
@[go_sem] theorem one_slice (a : Option Addr) (n c : Nat) : (Value.slice a n c).oneCell' = true := rfl
@[go_sem] theorem one_map (a : Option Nat) : (Value.map a).oneCell' = true := rfl
@[go_sem] theorem one_string (s : ByteArray) : (Value.string s).oneCell' = true := rfl
def isAggOf (n : Nat) : Value → Bool
  | .agg cs => cs.size == n && oneCells cs
  | _ => false
@[go_sem] theorem ptrBlk_mk (g : Nat) : ptrBlk (.pointer (some ⟨g, 0, none⟩)) = g := rfl
@[go_sem] theorem isRow_mk (w : World) (n g : Nat) : isRow w n (.pointer (some ⟨g, 0, none⟩)) = ((rowOf w g).size == n) := rfl
@[go_sem] theorem aggOf_mk (cs : Array Value) : aggOf (.agg cs) = cs := rfl
@[go_sem] theorem isAggOf_mk (n : Nat) (cs : Array Value) : isAggOf n (.agg cs) = (cs.size == n && oneCells cs) := rfl
theorem isRow_spec {w : World} {n : Nat} {v : Value} (hn : 0 < n) (h : isRow w n v = true) : ∃ g t cs, v = .pointer (some ⟨g, 0, none⟩) ∧ w.heap[g]? = some (.cells cs t (0, 0)) ∧ cs.size = n := by
  unfold isRow at h
  split at h
  · rename_i g
    refine ⟨g, ?_⟩
    unfold rowOf at h
    split at h
    · rename_i cs t hg
      exact ⟨t, cs, rfl, hg, by simpa using h⟩
    · simp at h; omega
  · cases h
theorem exec_load_row {P : Program} (ty n : Nat) (d : TypeDesc) (hn : 0 < n) (hu : P.underlying ty = some d) (hd : (match d with | .struct _ | .array _ _ => true | _ => false) = true) (hi : (P.info? ty).map (·.size) = some n)
    (ev : Operand → Value) (dst : Option Tmp) (x : Operand) (t : TypeId) (pos : String) (after : Array Edge) (guard : Option (Nat × Bool)) (w : World) (h : isRow w n (ev x) = true) :
    (execOp ev { dst, op := .load ty x, type := t, pos, after, guard }).run P w = .ok (.value (.agg (rowOf w (ptrBlk (ev x))))) w := by
  obtain ⟨g, t', cs, hv, hg, hs⟩ := isRow_spec hn h
  have hr : rowOf w g = cs := by simp [rowOf, hg]
  unfold execOp
  simp only [hv, Instr.loadAt, Instr.sureAddr, Sem.run_bind, Sem.run_pure, Result.andThen_ok, ptrBlk, hr, run_loadVar_row w g t' ty cs (0, 0) d hg hu hd (by rw [hs]; exact hi)]
theorem exec_store_row {P : Program} (ty n : Nat) (hn : 0 < n) (hi : (P.info? ty).map (·.size) = some n)
    (ev : Operand → Value) (dst : Option Tmp) (x y : Operand) (t : TypeId) (pos : String) (after : Array Edge) (guard : Option (Nat × Bool)) (w : World) (h : isRow w n (ev x) = true) (h2 : isAggOf n (ev y) = true) :
    (execOp ev { dst, op := .store ty x y, type := t, pos, after, guard }).run P w = .ok .skip (w.setRow (ptrBlk (ev x)) (aggOf (ev y))) := by
  obtain ⟨g, t', cs, hv, hg, hs⟩ := isRow_spec hn h
  unfold isAggOf at h2
  split at h2
  · rename_i cells hy
    simp only [Bool.and_eq_true, beq_iff_eq] at h2
    unfold execOp
    simp only [hv, hy, Instr.storeAt, Instr.sureAddr, Sem.run_bind, Sem.run_pure, Result.andThen_ok, ptrBlk, aggOf, run_storeVar_row w g t' ty cs cells hg (by rw [h2.1]; exact hi) (by rw [hs, h2.1]) h2.2]
  · cases h2
@[go_sem] theorem setRow_alloc_at (w : World) (c c' : Array Value) (t : TypeId) (n : Nat) (h : n = w.heap.size) : (w.alloc (.cells c t)).setRow n c' = w.alloc (.cells c' t) := by
  subst h; exact World.setRow_alloc_new w c c' t
@[go_sem] theorem rowOf_alloc_at (w : World) (c : Array Value) (t : TypeId) (n : Nat) (h : n = w.heap.size) : rowOf (w.alloc (.cells c t)) n = c := by
  subst h; exact (Blk.new w t c).rowOf
@[go_sem] theorem rowOf_alloc_past (w : World) (o : Obj) (n : Nat) (h : n < w.heap.size) : rowOf (w.alloc o) n = rowOf w n := by
  simp only [rowOf, Below.heap_alloc w o n h]
@[go_sem] theorem rowOf_drew (w : World) (n : Nat) : rowOf w.drew n = rowOf w n := rfl
@[go_sem] theorem rowOf_drewN (w : World) (n k : Nat) : rowOf (w.drewN k) n = rowOf w n := rfl
theorem rowOf_setRow (w : World) (g : Nat) (t : TypeId) (old cs : Array Value) (h : Blk w g t old) : rowOf (w.setRow g cs) g = cs := (setRow_heap w g old cs t _ h |> fun h => (show Blk (w.setRow g cs) g t cs from h).rowOf)
@[go_sem] theorem rowOf_setRow_other (w : World) (g k : Nat) (cs : Array Value) (h : g ≠ k) : rowOf (w.setRow k cs) g = rowOf w g := by
  simp only [rowOf, setRow_other w k g cs h]
@[go_sem] theorem rowOf_setCell_other (w : World) (g : Nat) (p : Addr) (u : Value) (h : g ≠ p.block) : rowOf (w.setCell p u) g = rowOf w g := by
  simp only [rowOf, Below.heap_setCell w p u g h]

/-- numbers of 16 bits, at places of a list -/
def u16s (f : Nat → Nat) (n : Nat) : List Value := (List.range n).map fun i => Value.int .u16 (f i)

/-- the cells of a relation -/
def relCells (n : Int) (f : Nat → Nat) : Array Value := ((.int .i64 n) :: u16s f 12).toArray
def upd (f : Nat → Nat) (i v : Nat) : Nat → Nat := fun j => if j = i then v else f j

theorem relCells_size (n : Int) (f : Nat → Nat) : (relCells n f).size = 13 := by simp [relCells, u16s]
theorem relCells_one (n : Int) (f : Nat → Nat) : (relCells n f).all (·.oneCell') = true := by
  simp [relCells, u16s, Value.oneCell']
theorem relCells_ones (n : Int) (f : Nat → Nat) : oneCells (relCells n f) = true := relCells_one n f
theorem relCells_zero (n : Int) : relCells n (fun _ => 0) = #[.int .i64 n, .int .u16 0, .int .u16 0, .int .u16 0, .int .u16 0, .int .u16 0, .int .u16 0, .int .u16 0, .int .u16 0, .int .u16 0, .int .u16 0, .int .u16 0, .int .u16 0] := rfl
theorem relCells_n (n : Int) (f : Nat → Nat) : (relCells n f)[0]? = some (.int .i64 n) := by simp [relCells]
theorem relCells_at (n : Int) (f : Nat → Nat) (i : Nat) (h : i < 12) : (relCells n f)[1 + i]? = some (.int .u16 (f i)) := by
  simp [relCells, u16s, Nat.add_comm 1 i, h]
theorem relCells_set (n : Int) (f : Nat → Nat) (i v : Nat) (h : i < 12) : (relCells n f).setIfInBounds (1 + i) (.int .u16 v) = relCells n (upd f i v) := by
  apply Array.ext_getElem?
  intro j
  rw [Array.getElem?_setIfInBounds]
  rcases j with _ | j
  · simp [relCells]
  · by_cases hj : j = i
    · subst hj
      rw [if_pos (by omega), if_pos (by rw [relCells_size]; omega), Nat.add_comm j 1, relCells_at _ _ _ h]
      simp [upd]
    · rw [if_neg (by omega)]
      by_cases hj2 : j < 12
      · rw [Nat.add_comm j 1, relCells_at _ _ _ hj2, relCells_at _ _ _ hj2]; simp [upd, hj]
      · rw [Array.getElem?_eq_none (by rw [relCells_size]; omega), Array.getElem?_eq_none (by rw [relCells_size]; omega)]
theorem relCells_congr (n : Int) (f g : Nat → Nat) (h : ∀ i, i < 12 → f i = g i) : relCells n f = relCells n g := by
  unfold relCells u16s
  congr 2
  apply List.map_congr_left
  intro i hi
  rw [h i (by simpa using hi)]
theorem relCells_inj (n m : Int) (f g : Nat → Nat) : relCells n f = relCells m g ↔ n = m ∧ ∀ i, i < 12 → f i = g i := by
  constructor
  · intro h
    refine ⟨?_, fun i hi => ?_⟩
    · have := congrArg (fun a : Array Value => a[0]?) h
      simpa [relCells] using this
    · have := congrArg (fun a : Array Value => a[1 + i]?) h
      simp only [relCells_at _ _ _ hi] at this
      injection this with this; injection this with _ this; omega
  · rintro ⟨rfl, h⟩; exact relCells_congr _ _ _ h


theorem bel_alloc {w X : World} (h : Below w.heap.size w X) (o : Obj) : Below w.heap.size w (X.alloc o) := h.alloc h.size o
theorem bel_set {w X : World} (h : Below w.heap.size w X) {p : Addr} (hp : w.heap.size ≤ p.block) (u : Value) : Below w.heap.size w (X.setCell p u) := h.setCell hp u
theorem bel_trans {a b c : World} (h : Below a.heap.size a b) (k : Below b.heap.size b c) : Below a.heap.size a c := h.trans (k.mono h.size)
theorem bel_row {w X : World} (h : Below w.heap.size w X) {g : Nat} (hg : w.heap.size ≤ g) (cs : Array Value) : Below w.heap.size w (X.setRow g cs) :=
  h.trans ⟨rfl, rfl, rfl, by simp, fun k hk => setRow_other X g k cs (by omega)⟩
theorem Blk.row {w : World} {g : Nat} {t : TypeId} {cs : Array Value} (h : Blk w g t cs) (cs' : Array Value) : Blk (w.setRow g cs') g t cs' := setRow_heap w g cs cs' t _ h
theorem Blk.rowFar {w : World} {g k : Nat} {t : TypeId} {cs : Array Value} (h : Blk w g t cs) (hk : g ≠ k) (cs' : Array Value) : Blk (w.setRow k cs') g t cs' ∨ Blk (w.setRow k cs') g t cs := .inr ((setRow_other w k g cs' hk).trans h)
theorem Blk.rowOther {w : World} {g k : Nat} {t : TypeId} {cs : Array Value} (h : Blk w g t cs) (hk : g ≠ k) (cs' : Array Value) : Blk (w.setRow k cs') g t cs := (setRow_other w k g cs' hk).trans h

/-- a whole row stored into the block that was made last -/
theorem wpList_store_new {P : Program} {ops : Array Oper} {rest : List Oper} {o : Oper} {a : Act} {w : World} {Q : Exit → Act → World → Prop} (hgd : o.guard = none) (ty : TypeId) (x y : Operand) (ho : o.op = .store ty x y)
    (cells : Array Value) (hx : a.eval x = .pointer (some ⟨w.heap.size, 0, none⟩)) (hy : a.eval y = .agg cells)
    (t : TypeId) (old : Array Value) (hi : (P.info? ty).map (·.size) = some cells.size)
    (hold : old.size = cells.size) (h1 : cells.all (·.oneCell') = true)
    (h : wpList P ops Q rest (a.put o.dst undef) (w.alloc (.cells cells t))) : wpList P ops Q (o :: rest) a (w.alloc (.cells old t)) :=
  wpList_store_row hgd ty x y ho w.heap.size cells hx hy t old (heap_alloc_new w _) hi hold h1 (by rw [World.setRow_alloc_new]; exact h)

theorem ret_int {k : IntKind} {a b : Int} (h : a = b) : Ending.returned (.int k a) = .returned (.int k b) := by rw [h]
theorem ret_bool {a b : Bool} (h : a = b) : Ending.returned (.bool a) = .returned (.bool b) := by rw [h]
theorem ret_agg {a b : Array Value} (h : a = b) : Ending.returned (.agg a) = .returned (.agg b) := by rw [h]

/-! A region that draws its order, whose operations only read, and whose callees make memory at most: walked once, in the order of the text. -/
section
variable {P : Program} {ops : Array Oper} {Q : Act → Prop} {a : Act} {o : Oper} {rest : List Oper} {w : World}
theorem qb_region {id : Nat} {Q : Exit → Act → World → Prop} {a : Act} {l : List Oper} (hm : P.follows .mixedOrders = true) (hB : Region.lexB .any l.toArray = true)
    (h : wpQuiet P l.toArray (Below w.heap.size w) (fun a' => ∀ w', Below w.heap.size w w' → Q .normal a' w') l a) : (Code.region id l.toArray true).wp P Q a w :=
  wp_region_quiet (C := Below w.heap.size w) hm hB ((Below.refl _ w).trans ⟨rfl, rfl, rfl, Nat.le_refl _, fun _ _ => rfl⟩) (by simpa using h)
theorem qb_norm (h : ∀ K : Act → Prop, (∀ a, wpQuiet P ops (Below w.heap.size w) Q rest a → K a) → K a) : wpQuiet P ops (Below w.heap.size w) Q rest a := h _ fun _ h => h
theorem qb_nil (h : Q a) : wpQuiet P ops (Below w.heap.size w) Q [] a := h
theorem qb_skip (hw : Region.wanted o (yielded ops a.tmps) = false) (h : wpQuiet P ops (Below w.heap.size w) Q rest (a.put o.dst undef)) : wpQuiet P ops (Below w.heap.size w) Q (o :: rest) a :=
  wpQuiet_step fun K hK => by rw [if_neg (by rw [hw]; exact Bool.false_ne_true)]; exact hK _ h
theorem qb_val (hw : Region.wanted o (yielded ops a.tmps) = true)
    (h : ∃ v, (∀ w', Below w.heap.size w w' → (execOp a.eval o).run P w' = .ok (.value v) w') ∧ wpQuiet P ops (Below w.heap.size w) Q rest (a.put o.dst v)) : wpQuiet P ops (Below w.heap.size w) Q (o :: rest) a :=
  wpQuiet_step fun K hK => by
    obtain ⟨v, hr, h⟩ := h
    rw [if_pos hw]
    exact ⟨v, fun w' hw' => by unfold Oper.quietAt; rw [hr w' hw']; exact ⟨rfl, rfl⟩, hK _ h⟩
theorem qb_none (hw : Region.wanted o (yielded ops a.tmps) = true) (hr : ∀ w', Below w.heap.size w w' → (execOp a.eval o).run P w' = .ok .skip w')
    (h : wpQuiet P ops (Below w.heap.size w) Q rest (a.put o.dst undef)) : wpQuiet P ops (Below w.heap.size w) Q (o :: rest) a :=
  wpQuiet_step fun K hK => by
    rw [if_pos hw]
    exact ⟨undef, fun w' hw' => by unfold Oper.quietAt; rw [hr w' hw']; exact ⟨rfl, rfl⟩, hK _ h⟩
theorem qb_call (hw : Region.wanted o (yielded ops a.tmps) = true)
    (h : ∃ f args v, (∀ w', (execOp a.eval o).run P w' = .ok (.enter f args) w') ∧ (∀ w', Below w.heap.size w w' → Calls P f args w' fun e w'' => e = .returned v ∧ Below w'.heap.size w' w'') ∧
      wpQuiet P ops (Below w.heap.size w) Q rest (a.put o.dst v)) : wpQuiet P ops (Below w.heap.size w) Q (o :: rest) a :=
  wpQuiet_step fun K hK => by
    obtain ⟨f, args, v, hr, hc, h⟩ := h
    rw [if_pos hw]
    exact ⟨v, fun w' hw' => by unfold Oper.quietAt; rw [hr w']; exact ⟨rfl, (hc w' hw').mono fun e w'' ⟨he, hb⟩ => ⟨he, bel_trans hw' hb⟩⟩, hK _ h⟩
theorem rowOf_below {B : Nat} {w w' : World} (h : Below B w w') {g : Nat} (hg : g < B) : rowOf w' g = rowOf w g := by
  simp only [rowOf, h.block g hg]
theorem cell_below {B : Nat} {w w' : World} (h : Below B w w') {g : Nat} (hg : g < B) (o : Nat) : w'.cell? ⟨g, o, none⟩ = w.cell? ⟨g, o, none⟩ := h.cell (p := ⟨g, o, none⟩) hg
theorem Calls.same_below {P : Program} {f : FuncId} {args : Array Value} {w : World} {v : Value} (h : Calls P f args w fun e w' => e = .returned v ∧ w = w') :
    Calls P f args w fun e w' => e = .returned v ∧ Below w.heap.size w w' := h.mono fun _ _ ⟨he, hw⟩ => ⟨he, by subst hw; exact Below.refl _ _⟩
end

/-- bits laid below a place -/
def bitsTo (p : Nat → Bool) : Nat → Nat
  | 0 => 0
  | m + 1 => bitsTo p m + (if p m then 2 ^ m else 0)
theorem bitsTo_lt (p : Nat → Bool) : ∀ m, bitsTo p m < 2 ^ m
  | 0 => by simp [bitsTo]
  | m + 1 => by
    have := bitsTo_lt p m
    rw [bitsTo, Nat.pow_succ]
    split <;> omega
theorem bitsTo_testBit (p : Nat → Bool) : ∀ m j, (bitsTo p m).testBit j = (decide (j < m) && p j)
  | 0, j => by simp [bitsTo]
  | m + 1, j => by
    have hlt := bitsTo_lt p m
    have ih := bitsTo_testBit p m j
    rw [bitsTo]
    by_cases hp : p m
    · rw [if_pos hp]
      by_cases hj : j = m
      · subst hj
        rw [Nat.add_comm, Nat.testBit_two_pow_add_eq, Nat.testBit_lt_two_pow hlt]
        simp [hp]
      · by_cases hj2 : j < m
        · rw [Nat.add_comm, Nat.testBit_two_pow_add_gt hj2, ih]
          have : j < m + 1 := by omega
          simp [hj2, this]
        · rw [Nat.testBit_lt_two_pow (Nat.lt_of_lt_of_le (show bitsTo p m + 2 ^ m < 2 ^ (m + 1) by rw [Nat.pow_succ]; omega) (Nat.pow_le_pow_right (by omega) (by omega)))]
          have : ¬ j < m + 1 := by omega
          simp [this]
    · rw [if_neg hp, Nat.add_zero, ih]
      by_cases hj : j = m
      · subst hj; simp [hp]
      · have : (j < m) ↔ (j < m + 1) := by omega
        simp [this]
end Go.Proofs.Ytppicbdaijiifaa
