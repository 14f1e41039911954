/- Lemmas for the walks (Base, Between, Read, Equal, Hist1, Obj1). No condition. -/
import Derived.WalkKit
import Derived.WalkSpells
import Derived.WalkLawsBesides
import Derived.Laws.Rows
import Derived.Lib.Hide
import Derived.Deep.WholeRow
import Derived.Deep.QuietTactic
import Derived.BigQuiet
import Derived.Test.YtnflkmjfhbfekaaRows
import Derived.RegionTactic
set_option linter.unusedSimpArgs false
set_option linter.unusedVariables false
set_option linter.unusedSectionVars false
set_option linter.unnecessarySimpa false
namespace Go.Proofs.Ytnflkmjfhbfekaa
open Go.RowKit

/-- block g is just the cells cs of element type t, none frozen -/
def Blk (w : World) (g : Nat) (t : TypeId) (cs : Array Value) : Prop := w.heap[g]? = some (.cells cs t (0, 0))

section
variable {w w' : World} {g : Nat} {t : TypeId} {cs : Array Value}
theorem Blk.lt (h : Blk w g t cs) : g < w.heap.size := by
  rcases Nat.lt_or_ge g w.heap.size with hlt | hge
  · exact hlt
  · unfold Blk at h; rw [Array.getElem?_eq_none hge] at h; cases h
theorem Blk.cell (h : Blk w g t cs) (i : Nat) : w.cell? ⟨g, i, none⟩ = cs[i]? := cell_of_row w g i cs t (0, 0) h
theorem Blk.frozen (h : Blk w g t cs) (i : Nat) : w.frozen? ⟨g, i, none⟩ = false := by
  unfold Blk at h
  simp [World.frozen?, h]
theorem Blk.new (w : World) (t : TypeId) (cs : Array Value) : Blk (w.alloc (.cells cs t)) w.heap.size t cs := heap_alloc_new w _
theorem Blk.new' (w : World) (t : TypeId) (cs : Array Value) (n : Nat) (h : n = w.heap.size) : Blk (w.alloc (.cells cs t)) n t cs := by subst h; exact heap_alloc_new w _
theorem Blk.drew (h : Blk w g t cs) : Blk w.drew g t cs := h
theorem Blk.drewN (h : Blk w g t cs) (n : Nat) : Blk (w.drewN n) g t cs := h
theorem Blk.alloc (h : Blk w g t cs) (o : Obj) : Blk (w.alloc o) g t cs := (Below.heap_alloc w o g h.lt).trans h
theorem Blk.set_ (h : Blk w g t cs) (i : Nat) (u : Value) : Blk (w.setCell ⟨g, i, none⟩ u) g t (cs.setIfInBounds i u) := by
  unfold Blk at h ⊢
  simp [World.setCell, Array.getElem?_modify, h]
theorem Blk.far (h : Blk w g t cs) {p : Addr} (hp : g ≠ p.block) (u : Value) : Blk (w.setCell p u) g t cs := (Below.heap_setCell w p u g hp).trans h
theorem Blk.carry (h : Blk w g t cs) (hb : Below w.heap.size w w') : Blk w' g t cs := (hb.block g h.lt).trans h
theorem Blk.below {B : Nat} (h : Blk w g t cs) (hb : Below B w w') (hg : g < B) : Blk w' g t cs := (hb.block g hg).trans h
end

theorem below_drewN' {B : Nat} {a w : World} (h : Below B a w) (n : Nat) : Below B a (w.drewN n) := ⟨h.os, h.tape, h.output, h.size, h.block⟩

/-- the cells of a block (none: it is no row of cells that may be written) -/
def rowOf (w : World) (g : Nat) : Array Value := match w.heap[g]? with | some (.cells cs _ (0, 0)) => cs | _ => #[]
theorem Blk.rowOf {w : World} {g : Nat} {t : TypeId} {cs : Array Value} (h : Blk w g t cs) : rowOf w g = cs := by
  unfold Blk at h
  simp [Go.Proofs.Ytnflkmjfhbfekaa.rowOf, h]
def ptrBlk : Value → Nat
  | .pointer (some a) => a.block
  | _ => 0
def isRow (w : World) (n : Nat) : Value → Bool
  | .pointer (some ⟨g, 0, none⟩) => (rowOf w g).size == n
  | _ => false
def aggOf : Value → Array Value
  | .agg cs => cs
  | _ => #[]
def oneCells (cs : Array Value) : Bool := cs.all (·.oneCell')
@[go_sem] theorem oneCells_list (l : List Value) : oneCells l.toArray = l.all (·.oneCell') := by simp [oneCells]
@[go_sem] theorem one_int (k : IntKind) (n : Int) : (Value.int k n).oneCell' = true := rfl
@[go_sem] theorem one_bool (b : Bool) : (Value.bool b).oneCell' = true := rfl
@[go_sem] theorem one_ptr (a : Option Addr) : (Value.pointer a).oneCell' = true := rfl
@[go_sem] theorem one_slice (a : Option Addr) (n c : Nat) : (Value.slice a n c).oneCell' = true := rfl
@[go_sem] theorem one_map (a : Option Nat) : (Value.map a).oneCell' = true := rfl
@[go_sem] theorem one_string (s : ByteArray) : (Value.string s).oneCell' = true := rfl
def isAggOf (n : Nat) : Value → Bool
  | .agg cs => cs.size == n && oneCells cs
  | _ => false
@[go_sem] theorem ptrBlk_mk (g : Nat) : ptrBlk (.pointer (some ⟨g, 0, none⟩)) = g := rfl
@[go_sem] theorem isRow_mk (w : World) (n g : Nat) : isRow w n (.pointer (some ⟨g, 0, none⟩)) = ((rowOf w g).size == n) := rfl
@[go_sem] theorem aggOf_mk (cs : Array Value) : aggOf (.agg cs) = cs := rfl
@[go_sem] theorem isAggOf_mk (n : Nat) (cs : Array Value) : isAggOf n (.agg cs) = (cs.size == n && oneCells cs) := rfl
theorem isRow_spec {w : World} {n : Nat} {v : Value} (hn : 0 < n) (h : isRow w n v = true) : ∃ g t cs, v = .pointer (some ⟨g, 0, none⟩) ∧ w.heap[g]? = some (.cells cs t (0, 0)) ∧ cs.size = n := by
  unfold isRow at h
  split at h
  · rename_i g
    refine ⟨g, ?_⟩
    unfold rowOf at h
    split at h
    · rename_i cs t hg
      exact ⟨t, cs, rfl, hg, by simpa using h⟩
    · simp at h; omega
  · cases h
theorem exec_load_row {P : Program} (ty n : Nat) (d : TypeDesc) (hn : 0 < n) (hu : P.underlying ty = some d) (hd : (match d with | .struct _ | .array _ _ => true | _ => false) = true) (hi : (P.info? ty).map (·.size) = some n)
    (ev : Operand → Value) (dst : Option Tmp) (x : Operand) (t : TypeId) (pos : String) (after : Array Edge) (guard : Option (Nat × Bool)) (w : World) (h : isRow w n (ev x) = true) :
    (execOp ev { dst, op := .load ty x, type := t, pos, after, guard }).run P w = .ok (.value (.agg (rowOf w (ptrBlk (ev x))))) w := by
  obtain ⟨g, t', cs, hv, hg, hs⟩ := isRow_spec hn h
  have hr : rowOf w g = cs := by simp [rowOf, hg]
  unfold execOp
  simp only [hv, Instr.loadAt, Instr.sureAddr, Sem.run_bind, Sem.run_pure, Result.andThen_ok, ptrBlk, hr, run_loadVar_row w g t' ty cs (0, 0) d hg hu hd (by rw [hs]; exact hi)]
theorem exec_store_row {P : Program} (ty n : Nat) (hn : 0 < n) (hi : (P.info? ty).map (·.size) = some n)
    (ev : Operand → Value) (dst : Option Tmp) (x y : Operand) (t : TypeId) (pos : String) (after : Array Edge) (guard : Option (Nat × Bool)) (w : World) (h : isRow w n (ev x) = true) (h2 : isAggOf n (ev y) = true) :
    (execOp ev { dst, op := .store ty x y, type := t, pos, after, guard }).run P w = .ok .skip (w.setRow (ptrBlk (ev x)) (aggOf (ev y))) := by
  obtain ⟨g, t', cs, hv, hg, hs⟩ := isRow_spec hn h
  unfold isAggOf at h2
  split at h2
  · rename_i cells hy
    simp only [Bool.and_eq_true, beq_iff_eq] at h2
    unfold execOp
    simp only [hv, hy, Instr.storeAt, Instr.sureAddr, Sem.run_bind, Sem.run_pure, Result.andThen_ok, ptrBlk, aggOf, run_storeVar_row w g t' ty cs cells hg (by rw [h2.1]; exact hi) (by rw [hs, h2.1]) h2.2]
  · cases h2
@[go_sem] theorem setRow_alloc_at (w : World) (c c' : Array Value) (t : TypeId) (n : Nat) (h : n = w.heap.size) : (w.alloc (.cells c t)).setRow n c' = w.alloc (.cells c' t) := by
  subst h; exact World.setRow_alloc_new w c c' t
@[go_sem] theorem rowOf_alloc_at (w : World) (c : Array Value) (t : TypeId) (n : Nat) (h : n = w.heap.size) : rowOf (w.alloc (.cells c t)) n = c := by
  subst h; exact (Blk.new w t c).rowOf
@[go_sem] theorem rowOf_alloc_past (w : World) (o : Obj) (n : Nat) (h : n < w.heap.size) : rowOf (w.alloc o) n = rowOf w n := by
  simp only [rowOf, Below.heap_alloc w o n h]
@[go_sem] theorem rowOf_drew (w : World) (n : Nat) : rowOf w.drew n = rowOf w n := rfl
@[go_sem] theorem rowOf_drewN (w : World) (n k : Nat) : rowOf (w.drewN k) n = rowOf w n := rfl
theorem rowOf_setRow (w : World) (g : Nat) (t : TypeId) (old cs : Array Value) (h : Blk w g t old) : rowOf (w.setRow g cs) g = cs := (setRow_heap w g old cs t _ h |> fun h => (show Blk (w.setRow g cs) g t cs from h).rowOf)
@[go_sem] theorem rowOf_setRow_other (w : World) (g k : Nat) (cs : Array Value) (h : g ≠ k) : rowOf (w.setRow k cs) g = rowOf w g := by
  simp only [rowOf, setRow_other w k g cs h]
@[go_sem] theorem rowOf_setCell_other (w : World) (g : Nat) (p : Addr) (u : Value) (h : g ≠ p.block) : rowOf (w.setCell p u) g = rowOf w g := by
  simp only [rowOf, Below.heap_setCell w p u g h]

/-- numbers of 16 bits, at places of a list -/
def u16s (f : Nat → Nat) (n : Nat) : List Value := (List.range n).map fun i => Value.int .u16 (f i)

/-- the cells of a relation -/
def relCells (n : Int) (f : Nat → Nat) : Array Value := ((.int .i64 n) :: u16s f 12).toArray
def upd (f : Nat → Nat) (i v : Nat) : Nat → Nat := fun j => if j = i then v else f j

theorem relCells_size (n : Int) (f : Nat → Nat) : (relCells n f).size = 13 := by simp [relCells, u16s]
theorem relCells_one (n : Int) (f : Nat → Nat) : (relCells n f).all (·.oneCell') = true := by
  simp [relCells, u16s, Value.oneCell']
theorem relCells_ones (n : Int) (f : Nat → Nat) : oneCells (relCells n f) = true := relCells_one n f
theorem relCells_zero (n : Int) : relCells n (fun _ => 0) = #[.int .i64 n, .int .u16 0, .int .u16 0, .int .u16 0, .int .u16 0, .int .u16 0, .int .u16 0, .int .u16 0, .int .u16 0, .int .u16 0, .int .u16 0, .int .u16 0, .int .u16 0] := rfl
theorem relCells_n (n : Int) (f : Nat → Nat) : (relCells n f)[0]? = some (.int .i64 n) := by simp [relCells]
theorem relCells_at (n : Int) (f : Nat → Nat) (i : Nat) (h : i < 12) : (relCells n f)[1 + i]? = some (.int .u16 (f i)) := by
  simp [relCells, u16s, Nat.add_comm 1 i, h]
theorem relCells_set (n : Int) (f : Nat → Nat) (i v : Nat) (h : i < 12) : (relCells n f).setIfInBounds (1 + i) (.int .u16 v) = relCells n (upd f i v) := by
  apply Array.ext_getElem?
  intro j
  rw [Array.getElem?_setIfInBounds]
  rcases j with _ | j
  · simp [relCells]
  · by_cases hj : j = i
    · subst hj
      rw [if_pos (by omega), if_pos (by rw [relCells_size]; omega), Nat.add_comm j 1, relCells_at _ _ _ h]
      simp [upd]
    · rw [if_neg (by omega)]
      by_cases hj2 : j < 12
      · rw [Nat.add_comm j 1, relCells_at _ _ _ hj2, relCells_at _ _ _ hj2]; simp [upd, hj]
      · rw [Array.getElem?_eq_none (by rw [relCells_size]; omega), Array.getElem?_eq_none (by rw [relCells_size]; omega)]
theorem relCells_congr (n : Int) (f g : Nat → Nat) (h : ∀ i, i < 12 → f i = g i) : relCells n f = relCells n g := by
  unfold relCells u16s
  congr 2
  apply List.map_congr_left
  intro i hi
  rw [h i (by simpa using hi)]
theorem relCells_inj (n m : Int) (f g : Nat → Nat) : relCells n f = relCells m g ↔ n = m ∧ ∀ i, i < 12 → f i = g i := by
  constructor
  · intro h
    refine ⟨?_, fun i hi => ?_⟩
    · have := congrArg (fun a : Array Value => a[0]?) h
      simpa [relCells] using this
    · have := congrArg (fun a : Array Value => a[1 + i]?) h
      simp only [relCells_at _ _ _ hi] at this
      injection this with this; injection this with _ this; omega
  · rintro ⟨rfl, h⟩; exact relCells_congr _ _ _ h


theorem bel_alloc {w X : World} (h : Below w.heap.size w X) (o : Obj) : Below w.heap.size w (X.alloc o) := h.alloc h.size o
theorem bel_set {w X : World} (h : Below w.heap.size w X) {p : Addr} (hp : w.heap.size ≤ p.block) (u : Value) : Below w.heap.size w (X.setCell p u) := h.setCell hp u
theorem bel_trans {a b c : World} (h : Below a.heap.size a b) (k : Below b.heap.size b c) : Below a.heap.size a c := h.trans (k.mono h.size)
theorem bel_row {w X : World} (h : Below w.heap.size w X) {g : Nat} (hg : w.heap.size ≤ g) (cs : Array Value) : Below w.heap.size w (X.setRow g cs) :=
  h.trans ⟨rfl, rfl, rfl, by simp, fun k hk => setRow_other X g k cs (by omega)⟩
theorem Blk.row {w : World} {g : Nat} {t : TypeId} {cs : Array Value} (h : Blk w g t cs) (cs' : Array Value) : Blk (w.setRow g cs') g t cs' := setRow_heap w g cs cs' t _ h
theorem Blk.rowFar {w : World} {g k : Nat} {t : TypeId} {cs : Array Value} (h : Blk w g t cs) (hk : g ≠ k) (cs' : Array Value) : Blk (w.setRow k cs') g t cs' ∨ Blk (w.setRow k cs') g t cs := .inr ((setRow_other w k g cs' hk).trans h)
theorem Blk.rowOther {w : World} {g k : Nat} {t : TypeId} {cs : Array Value} (h : Blk w g t cs) (hk : g ≠ k) (cs' : Array Value) : Blk (w.setRow k cs') g t cs := (setRow_other w k g cs' hk).trans h

/-- a whole row stored into the block that was made last -/
theorem wpList_store_new {P : Program} {ops : Array Oper} {rest : List Oper} {o : Oper} {a : Act} {w : World} {Q : Exit → Act → World → Prop} (hgd : o.guard = none) (ty : TypeId) (x y : Operand) (ho : o.op = .store ty x y)
    (cells : Array Value) (hx : a.eval x = .pointer (some ⟨w.heap.size, 0, none⟩)) (hy : a.eval y = .agg cells)
    (t : TypeId) (old : Array Value) (hi : (P.info? ty).map (·.size) = some cells.size)
    (hold : old.size = cells.size) (h1 : cells.all (·.oneCell') = true)
    (h : wpList P ops Q rest (a.put o.dst undef) (w.alloc (.cells cells t))) : wpList P ops Q (o :: rest) a (w.alloc (.cells old t)) :=
  wpList_store_row hgd ty x y ho w.heap.size cells hx hy t old (heap_alloc_new w _) hi hold h1 (by rw [World.setRow_alloc_new]; exact h)

theorem ret_int {k : IntKind} {a b : Int} (h : a = b) : Ending.returned (.int k a) = .returned (.int k b) := by rw [h]
theorem ret_bool {a b : Bool} (h : a = b) : Ending.returned (.bool a) = .returned (.bool b) := by rw [h]
theorem ret_agg {a b : Array Value} (h : a = b) : Ending.returned (.agg a) = .returned (.agg b) := by rw [h]

/-! A region that draws its order, whose operations only read, and whose callees make memory at most: walked once, in the order of the text. -/
section
variable {P : Program} {ops : Array Oper} {Q : Act → Prop} {a : Act} {o : Oper} {rest : List Oper} {w : World}
theorem qb_region {id : Nat} {Q : Exit → Act → World → Prop} {a : Act} {l : List Oper} (hm : P.follows .mixedOrders = true) (hB : Region.lexB .any l.toArray = true)
    (h : wpQuiet P l.toArray (Below w.heap.size w) (fun a' => ∀ w', Below w.heap.size w w' → Q .normal a' w') l a) : (Code.region id l.toArray true).wp P Q a w :=
  wp_region_quiet (C := Below w.heap.size w) hm hB ((Below.refl _ w).trans ⟨rfl, rfl, rfl, Nat.le_refl _, fun _ _ => rfl⟩) (by simpa using h)
theorem qb_norm (h : ∀ K : Act → Prop, (∀ a, wpQuiet P ops (Below w.heap.size w) Q rest a → K a) → K a) : wpQuiet P ops (Below w.heap.size w) Q rest a := h _ fun _ h => h
theorem qb_nil (h : Q a) : wpQuiet P ops (Below w.heap.size w) Q [] a := h
theorem qb_skip (hw : Region.wanted o (yielded ops a.tmps) = false) (h : wpQuiet P ops (Below w.heap.size w) Q rest (a.put o.dst undef)) : wpQuiet P ops (Below w.heap.size w) Q (o :: rest) a :=
  wpQuiet_step fun K hK => by rw [if_neg (by rw [hw]; exact Bool.false_ne_true)]; exact hK _ h
theorem qb_val (hw : Region.wanted o (yielded ops a.tmps) = true)
    (h : ∃ v, (∀ w', Below w.heap.size w w' → (execOp a.eval o).run P w' = .ok (.value v) w') ∧ wpQuiet P ops (Below w.heap.size w) Q rest (a.put o.dst v)) : wpQuiet P ops (Below w.heap.size w) Q (o :: rest) a :=
  wpQuiet_step fun K hK => by
    obtain ⟨v, hr, h⟩ := h
    rw [if_pos hw]
    exact ⟨v, fun w' hw' => by unfold Oper.quietAt; rw [hr w' hw']; exact ⟨rfl, rfl⟩, hK _ h⟩
theorem qb_none (hw : Region.wanted o (yielded ops a.tmps) = true) (hr : ∀ w', Below w.heap.size w w' → (execOp a.eval o).run P w' = .ok .skip w')
    (h : wpQuiet P ops (Below w.heap.size w) Q rest (a.put o.dst undef)) : wpQuiet P ops (Below w.heap.size w) Q (o :: rest) a :=
  wpQuiet_step fun K hK => by
    rw [if_pos hw]
    exact ⟨undef, fun w' hw' => by unfold Oper.quietAt; rw [hr w' hw']; exact ⟨rfl, rfl⟩, hK _ h⟩
theorem qb_call (hw : Region.wanted o (yielded ops a.tmps) = true)
    (h : ∃ f args v, (∀ w', (execOp a.eval o).run P w' = .ok (.enter f args) w') ∧ (∀ w', Below w.heap.size w w' → Calls P f args w' fun e w'' => e = .returned v ∧ Below w'.heap.size w' w'') ∧
      wpQuiet P ops (Below w.heap.size w) Q rest (a.put o.dst v)) : wpQuiet P ops (Below w.heap.size w) Q (o :: rest) a :=
  wpQuiet_step fun K hK => by
    obtain ⟨f, args, v, hr, hc, h⟩ := h
    rw [if_pos hw]
    exact ⟨v, fun w' hw' => by unfold Oper.quietAt; rw [hr w']; exact ⟨rfl, (hc w' hw').mono fun e w'' ⟨he, hb⟩ => ⟨he, bel_trans hw' hb⟩⟩, hK _ h⟩
theorem rowOf_below {B : Nat} {w w' : World} (h : Below B w w') {g : Nat} (hg : g < B) : rowOf w' g = rowOf w g := by
  simp only [rowOf, h.block g hg]
theorem cell_below {B : Nat} {w w' : World} (h : Below B w w') {g : Nat} (hg : g < B) (o : Nat) : w'.cell? ⟨g, o, none⟩ = w.cell? ⟨g, o, none⟩ := h.cell (p := ⟨g, o, none⟩) hg
theorem Calls.same_below {P : Program} {f : FuncId} {args : Array Value} {w : World} {v : Value} (h : Calls P f args w fun e w' => e = .returned v ∧ w = w') :
    Calls P f args w fun e w' => e = .returned v ∧ Below w.heap.size w w' := h.mono fun _ _ ⟨he, hw⟩ => ⟨he, by subst hw; exact Below.refl _ _⟩
end

/-- bits laid below a place -/
def bitsTo (p : Nat → Bool) : Nat → Nat
  | 0 => 0
  | m + 1 => bitsTo p m + (if p m then 2 ^ m else 0)
theorem bitsTo_lt (p : Nat → Bool) : ∀ m, bitsTo p m < 2 ^ m
  | 0 => by simp [bitsTo]
  | m + 1 => by
    have := bitsTo_lt p m
    rw [bitsTo, Nat.pow_succ]
    split <;> omega
theorem bitsTo_testBit (p : Nat → Bool) : ∀ m j, (bitsTo p m).testBit j = (decide (j < m) && p j)
  | 0, j => by simp [bitsTo]
  | m + 1, j => by
    have hlt := bitsTo_lt p m
    have ih := bitsTo_testBit p m j
    rw [bitsTo]
    by_cases hp : p m
    · rw [if_pos hp]
      by_cases hj : j = m
      · subst hj
        rw [Nat.add_comm, Nat.testBit_two_pow_add_eq, Nat.testBit_lt_two_pow hlt]
        simp [hp]
      · by_cases hj2 : j < m
        · rw [Nat.add_comm, Nat.testBit_two_pow_add_gt hj2, ih]
          have : j < m + 1 := by omega
          simp [hj2, this]
        · rw [Nat.testBit_lt_two_pow (Nat.lt_of_lt_of_le (show bitsTo p m + 2 ^ m < 2 ^ (m + 1) by rw [Nat.pow_succ]; omega) (Nat.pow_le_pow_right (by omega) (by omega)))]
          have : ¬ j < m + 1 := by omega
          simp [this]
    · rw [if_neg hp, Nat.add_zero, ih]
      by_cases hj : j = m
      · subst hj; simp [hp]
      · have : (j < m) ↔ (j < m + 1) := by omega
        simp [this]
end Go.Proofs.Ytnflkmjfhbfekaa

namespace Go.Proofs.Ytnflkmjfhbfekaa
open Go.RowKit
theorem between_any (a b c : Int) (w : World) :
    Calls Try.prog 27 #[.int .i64 a, .int .i64 b, .int .i64 c] w fun e w' => e = .returned (.bool (decide (b ≤ a) && decide (a ≤ c))) ∧ w = w' := by
  by_cases h1 : b ≤ a
  · by_cases h2 : a ≤ c
    · go_enter Try.func27, Try.ntmps27
      go_wp2
      go_ret
      simp [h1, h2]
    · go_enter Try.func27, Try.ntmps27
      go_wp2
      go_ret
      simp; omega
  · have h1' : decide (b ≤ a) = false := by simpa using h1
    go_enter Try.func27, Try.ntmps27
    go_wp2
    go_ret
    simp

end Go.Proofs.Ytnflkmjfhbfekaa

namespace Go.Proofs.Ytnflkmjfhbfekaa
open Go.RowKit

/-- the slice's address reads as the list: each element lies in m cells -/
def RdE {α : Type} (enc : α → List Value) (m : Nat) (w : World) (A : Option Addr) (l : List α) : Prop :=
  ∀ i x, l[i]? = some x → ∃ b o, A = some ⟨b, o, none⟩ ∧ b < w.heap.size ∧ ∀ j v, (enc x)[j]? = some v → w.cell? ⟨b, o + i * m + j, none⟩ = some v
section
variable {α : Type} {enc : α → List Value} {m : Nat} {w w' : World} {A : Option Addr} {l : List α}
theorem RdE.below (h : RdE enc m w A l) (hb : Below w.heap.size w w') : RdE enc m w' A l := by
  intro i s hs
  obtain ⟨b, o, h1, h2, h3⟩ := h i s hs
  exact ⟨b, o, h1, Nat.lt_of_lt_of_le h2 hb.size, fun j v hv => (hb.cell (p := ⟨b, _, none⟩) h2).trans (h3 j v hv)⟩
theorem RdE.at_ (h : RdE enc m w A l) (hb : Below w.heap.size w w') (k : Nat) (hk : k < l.length) :
    ∃ b o, A = some ⟨b, o, none⟩ ∧ b < w.heap.size ∧ b < w'.heap.size ∧ ∀ j v, (enc l[k])[j]? = some v → w'.cell? ⟨b, o + k * m + j, none⟩ = some v := by
  obtain ⟨b, o, h1, h2, h3⟩ := h k l[k] (by simp [hk])
  exact ⟨b, o, h1, h2, Nat.lt_of_lt_of_le h2 hb.size, fun j v hv => (hb.cell (p := ⟨b, _, none⟩) h2).trans (h3 j v hv)⟩
theorem RdE.take (h : RdE enc m w A l) (k : Nat) : RdE enc m w A (l.take k) := by
  intro i x hx
  rw [List.getElem?_take] at hx
  split at hx
  · exact h i x hx
  · cases hx
theorem RdE.nil (A : Option Addr) : RdE enc m w A [] := fun i x hx => by simp at hx
end

theorem foldl_take_succ {α β : Type} (f : β → α → β) (b : β) (l : List α) (k : Nat) (hk : k < l.length) : (l.take (k + 1)).foldl f b = f ((l.take k).foldl f b) l[k] := by
  rw [List.take_succ_eq_append_getElem hk, List.foldl_append]
  rfl
theorem any_take_succ' {α : Type} {p : α → Bool} {l : List α} {k : Nat} (hk : k < l.length) (h : (l.take k).any p = false) (hb : p l[k] = false) : (l.take (k + 1)).any p = false := by
  rw [List.take_succ_eq_append_getElem hk, List.any_append, h]
  simp [hb]
theorem all_take_succ {α : Type} {p : α → Bool} {l : List α} {k : Nat} (hk : k < l.length) : (l.take (k + 1)).all p = ((l.take k).all p && p l[k]) := by
  rw [List.take_succ_eq_append_getElem hk, List.all_append]
  simp
theorem findIdx_at {α : Type} {p : α → Bool} {l : List α} {k : Nat} (hk : k < l.length) (h : (l.take k).any p = false) (hb : p l[k] = true) : l.findIdx p = k := by
  rw [List.findIdx_eq hk]
  refine ⟨hb, fun j hj => ?_⟩
  have := List.any_eq_false.1 h l[j] (by rw [List.mem_take_iff_getElem]; exact ⟨j, by omega, rfl⟩)
  simpa using this
theorem findIdx_none {α : Type} {p : α → Bool} {l : List α} (h : (l.take l.length).any p = false) : l.findIdx p = l.length := by
  rw [List.take_length] at h
  rw [List.findIdx_eq_length]
  intro x hx
  have := List.any_eq_false.1 h x hx
  simpa using this

/-- numbers, in a row -/
def ints (f : Nat → Int) (n : Nat) : Array Value := ((List.range n).map fun i => Value.int .i64 (f i)).toArray
def bools (f : Nat → Bool) (n : Nat) : Array Value := ((List.range n).map fun i => Value.bool (f i)).toArray
def upz {β : Type} (f : Nat → β) (i : Nat) (v : β) : Nat → β := fun j => if j = i then v else f j
theorem ints_size (f : Nat → Int) (n : Nat) : (ints f n).size = n := by simp [ints]
theorem bools_size (f : Nat → Bool) (n : Nat) : (bools f n).size = n := by simp [bools]
theorem ints_at (f : Nat → Int) (n i : Nat) (h : i < n) : (ints f n)[i]? = some (.int .i64 (f i)) := by simp [ints, h]
theorem bools_at (f : Nat → Bool) (n i : Nat) (h : i < n) : (bools f n)[i]? = some (.bool (f i)) := by simp [bools, h]
theorem ints_set (f : Nat → Int) (n i : Nat) (v : Int) : (ints f n).setIfInBounds i (.int .i64 v) = ints (upz f i v) n := by
  apply Array.ext_getElem?
  intro j
  rw [Array.getElem?_setIfInBounds]
  by_cases hj : j < n
  · rw [ints_at _ _ _ hj, ints_at _ _ _ hj, ints_size]
    by_cases h : i = j
    · subst h; simp [upz, hj]
    · have h' : ¬ j = i := fun e => h e.symm
      simp [upz, h, h']
  · rw [Array.getElem?_eq_none (by rw [ints_size]; omega), Array.getElem?_eq_none (by rw [ints_size]; omega)]
    split
    · rw [if_neg (by rw [ints_size]; omega)]
    · rfl
theorem bools_set (f : Nat → Bool) (n i : Nat) (v : Bool) : (bools f n).setIfInBounds i (.bool v) = bools (upz f i v) n := by
  apply Array.ext_getElem?
  intro j
  rw [Array.getElem?_setIfInBounds]
  by_cases hj : j < n
  · rw [bools_at _ _ _ hj, bools_at _ _ _ hj, bools_size]
    by_cases h : i = j
    · subst h; simp [upz, hj]
    · have h' : ¬ j = i := fun e => h e.symm
      simp [upz, h, h']
  · rw [Array.getElem?_eq_none (by rw [bools_size]; omega), Array.getElem?_eq_none (by rw [bools_size]; omega)]
    split
    · rw [if_neg (by rw [bools_size]; omega)]
    · rfl
theorem ints_ones (f : Nat → Int) (n : Nat) : oneCells (ints f n) = true := by
  simp [ints, oneCells, Value.oneCell']
end Go.Proofs.Ytnflkmjfhbfekaa

namespace Go.Proofs.Ytnflkmjfhbfekaa
open Go.RowKit

def intEnc (z : Int) : List Value := [.int .i64 z]
/-- a slice of ints reads as the list -/
def RdInt (w : World) (A : Option Addr) (l : List Int) : Prop := RdE intEnc 1 w A l
theorem RdInt.at_ {w wr : World} {A : Option Addr} {l : List Int} (h : RdInt w A l) (hb : Below w.heap.size w wr) (k : Nat) (hk : k < l.length) :
    ∃ b o, A = some ⟨b, o, none⟩ ∧ b < w.heap.size ∧ b < wr.heap.size ∧ wr.cell? ⟨b, o + k, none⟩ = some (.int .i64 l[k]) := by
  obtain ⟨b, o, h1, h2, h3, h4⟩ := RdE.at_ h hb k hk
  have := h4 0 _ rfl
  rw [Nat.mul_one] at this
  exact ⟨b, o, h1, h2, h3, this⟩
theorem RdInt.of_ints {w : World} {g t n : Nat} {f : Nat → Int} (h : Blk w g t (ints f n)) : RdInt w (some ⟨g, 0, none⟩) ((List.range n).map f) := by
  intro i x hx
  have hi : i < n := by
    have := (List.getElem?_eq_some_iff.1 hx).1
    simpa using this
  have hx' : f i = x := by simpa [hi] using hx
  subst hx'
  refine ⟨g, 0, rfl, h.lt, fun j v hv => ?_⟩
  match j, hv with
  | 0, hv =>
    obtain rfl : v = .int .i64 (f i) := by simpa [intEnc] using hv.symm
    have := (h.cell i).trans (ints_at f n i hi)
    simpa using this
  | j + 1, hv => simp [intEnc] at hv

theorem RdInt.of_list {w : World} {g t : Nat} {l : List Int} (h : Blk w g t (l.map (Value.int .i64)).toArray) : RdInt w (some ⟨g, 0, none⟩) l := by
  intro i x hx
  refine ⟨g, 0, rfl, h.lt, fun j v hv => ?_⟩
  match j, hv with
  | 0, hv =>
    obtain rfl : v = .int .i64 x := by simpa [intEnc] using hv.symm
    have := h.cell i
    simp only [List.getElem?_toArray, List.getElem?_map, hx, Option.map_some] at this
    simpa using this
  | j + 1, hv => simp [intEnc] at hv

set_option maxHeartbeats 2000000 in
theorem equal_any (A B : Option Addr) (c d : Nat) (l m : List Int) (w : World) (hl : l.length ≤ 9223372036854775807) (hm : m.length ≤ 9223372036854775807) (hA : RdInt w A l) (hB : RdInt w B m) :
    Calls Try.prog 32 #[.slice A l.length c, .slice B m.length d] w fun e w' => e = .returned (.bool (decide (l = m))) ∧ Below w.heap.size w w' := by
  by_cases hlen : l.length = m.length
  · have hne : ((l.length : Int) != (m.length : Int)) = false := by simp; omega
    have Hlen := Lib.hid hlen
    have hle : l.length ≤ m.length := by omega
    clear hlen
    go_enter Try.func32, Try.ntmps32
    go_wp2
    go_loopw [13] (fun i wr => ∃ k : Nat, k ≤ l.length ∧ i = .int .i64 k ∧ Hid (∀ j, j < k → l[j]? = m[j]?) ∧ Below w.heap.size w wr) (fun i _ => l.length - (intOf i).toNat)
    case atStart => exact ⟨0, by omega, rfl, Lib.hid (by omega), Below.refl _ _⟩
    case round =>
      obtain ⟨k, hk, rfl, hall, hbel⟩ := hrel
      by_cases hlt : k < l.length
      · obtain ⟨b, o, rfl, hb0, hbs, c0⟩ := hA.at_ hbel k hlt
        obtain ⟨b2, o2, rfl, hb02, hbs2, d0⟩ := hB.at_ hbel k (by omega)
        have hk1 : (k : Int) < (l.length : Int) := by omega
        have hk2 : (k : Int) < (m.length : Int) := by omega
        by_cases he : l[k] = m[k]
        · have hb : (l[k] != m[k]) = false := by simp [he]
          have He := Lib.hid he
          clear he
          go_wp2
          go_quiet (fail)
          go_wp2
          go_roundw
          case rel => exact ⟨k + 1, by omega, by go_num, Lib.hid (fun j hj => by
            by_cases e : j = k
            · subst e; rw [List.getElem?_eq_getElem hlt, List.getElem?_eq_getElem (by omega), He.out]
            · exact hall.out j (by omega)), by (repeat (first | assumption | exact Below.refl _ _ | refine bel_alloc ?_ _ | refine Below.drew ?_ | refine below_drewN' ?_ _ | (refine bel_set ?_ (by first | (simp; done) | (simp; omega)) _) | (refine bel_row ?_ (by first | (simp; done) | (simp; omega)) _)))⟩
          case measure => simp [intOf]; omega
        · have hb : (l[k] != m[k]) = true := by simp [he]
          have He := Lib.hid he
          clear he
          go_wp2
          go_quiet (fail)
          go_wp2
          go_ret
          exact ⟨ret_bool (by
            symm
            simp only [decide_eq_false_iff_not]
            intro e
            subst e
            exact He.out rfl), by (repeat (first | assumption | exact Below.refl _ _ | refine bel_alloc ?_ _ | refine Below.drew ?_ | refine below_drewN' ?_ _ | (refine bel_set ?_ (by first | (simp; done) | (simp; omega)) _) | (refine bel_row ?_ (by first | (simp; done) | (simp; omega)) _)))⟩
      · obtain rfl : k = l.length := by omega
        go_wp2
        go_ret
        exact ⟨ret_bool (by
          symm
          simp only [decide_eq_true_eq]
          apply List.ext_getElem?
          intro j
          by_cases hj : j < l.length
          · exact hall.out j hj
          · rw [List.getElem?_eq_none (by omega), List.getElem?_eq_none (by have := Hlen.out; omega)]), hbel⟩
  · have hne : ((l.length : Int) != (m.length : Int)) = true := by simp; omega
    have H := Lib.hid (show decide (l = m) = false by simp; intro e; exact hlen (by rw [e]))
    clear hlen
    go_enter Try.func32, Try.ntmps32
    go_wp2
    go_ret
    exact ⟨ret_bool H.out.symm, Below.refl _ _⟩
end Go.Proofs.Ytnflkmjfhbfekaa

namespace Go.Proofs.Ytnflkmjfhbfekaa
open Go.RowKit

def typeF (k : Int) : Int := if k = 1 ∨ k = 2 then 1 else if k = 3 ∨ k = 4 then 2 else if k = 5 ∨ k = 6 then 3 else if k = 7 ∨ k = 8 ∨ k = 9 then 4 else if k = 10 then 5 else 0
def fitsB (t k : Int) : Bool := decide (t ≠ 0 ∧ typeF k = t)
def argB (k n : Int) : Bool := if k = 2 ∨ k = 4 ∨ k = 6 ∨ k = 10 then decide (n = 0) else decide (1 ≤ n ∧ n ≤ 1000)
def resB (k n : Int) : Bool := if k = 2 ∨ k = 10 then decide (0 ≤ n ∧ n ≤ 1000) else if k = 4 ∨ k = 6 then decide (n = -1 ∨ (1 ≤ n ∧ n ≤ 1000)) else if k = 7 ∨ k = 8 ∨ k = 9 then decide (n = 0 ∨ n = 1) else decide (n = 0)
def ansB (k n : Int) : Bool := if k = 2 ∨ k = 10 then decide (0 ≤ n ∧ n ≤ 1000) else if k = 4 ∨ k = 6 then decide (n = -1 ∨ (1 ≤ n ∧ n ≤ 1000)) else if 7 ≤ k then decide (0 ≤ n ∧ n ≤ 1) else decide (n = 0)
def kindsL (t : Int) : List Int := if t = 1 then [1, 2] else if t = 2 then [3, 4] else if t = 3 then [5, 6] else if t = 4 then [7, 8, 9] else if t = 5 then [10] else []

theorem typeF_kinds (t k : Int) : fitsB t k = (kindsL t).contains k := by
  rw [Bool.eq_iff_iff]
  unfold fitsB typeF kindsL
  simp only [decide_eq_true_eq]
  repeat' split
  all_goals (simp only [List.contains_cons, List.contains_nil, Bool.or_eq_true, beq_iff_eq, Bool.false_eq_true, or_false, iff_false, not_and]; omega)
theorem typeF_pos {k t : Int} (h : fitsB t k = true) : 1 ≤ k ∧ k ≤ 10 := by
  unfold fitsB typeF at h
  simp only [decide_eq_true_eq] at h
  obtain ⟨h0, h⟩ := h
  repeat' split at h
  all_goals omega
theorem resB_ansB {k n : Int} (h1 : 1 ≤ k) (h2 : k ≤ 10) : resB k n = ansB k n := by
  unfold resB ansB
  repeat' split
  all_goals first | rfl | omega | (apply decide_eq_decide.2; omega)

theorem typeOf_any (k : Int) (w : World) : Calls Try.prog 94 #[.int .i64 k] w fun e w' => e = .returned (.int .i64 (typeF k)) ∧ w = w' := by
  go_enter Try.func94, Try.ntmps94
  go_wp2
  all_goals
    go_ret
    refine ⟨ret_int ?_, rfl⟩
    simp only [beq_iff_eq, beq_eq_false_iff_ne] at *
    unfold typeF
    repeat' split
    all_goals omega

theorem fits_any (t k : Int) (w : World) : Calls Try.prog 69 #[.int .i64 t, .int .i64 k] w fun e w' => e = .returned (.bool (fitsB t k)) ∧ w = w' := by
  by_cases ht : t = 0
  · subst ht
    go_enter Try.func69, Try.ntmps69
    go_wp2
    go_ret
    simp [fitsB]
  · have ht' : (t != 0) = true := by simpa using ht
    go_enter Try.func69, Try.ntmps69
    go_wp2_with (go_at_call 94; refine (typeOf_any _ _).mono ?_; rintro e w' ⟨rfl, rfl⟩)
    go_ret
    exact ⟨ret_bool (by rw [Bool.eq_iff_iff]; simp [fitsB, ht]), rfl⟩

theorem argument_any (k n : Int) (w : World) : Calls Try.prog 70 #[.int .i64 k, .int .i64 n] w fun e w' => e = .returned (.bool (argB k n)) ∧ w = w' := by
  go_enter Try.func70, Try.ntmps70
  go_wp2
  all_goals
    go_ret
    refine ⟨ret_bool ?_, rfl⟩
    try simp only [beq_iff_eq, beq_eq_false_iff_ne] at *
    rw [Bool.eq_iff_iff]
    unfold argB
    repeat' split
    all_goals first | (simp only [Bool.not_eq_true', Bool.not_eq_false', decide_eq_true_eq, decide_eq_false_iff_not, Bool.and_eq_true, Bool.or_eq_true, Bool.or_eq_false_iff, Bool.and_eq_false_iff, beq_iff_eq, Bool.false_eq_true, false_iff, iff_false, true_iff, iff_true] at *; done) | (simp only [Bool.not_eq_true', Bool.not_eq_false', decide_eq_true_eq, decide_eq_false_iff_not, Bool.and_eq_true, Bool.or_eq_true, Bool.or_eq_false_iff, Bool.and_eq_false_iff, beq_iff_eq, Bool.false_eq_true, false_iff, iff_false, true_iff, iff_true] at *; omega)

theorem result_any (k n : Int) (w : World) : Calls Try.prog 105 #[.int .i64 k, .int .i64 n] w fun e w' => e = .returned (.bool (resB k n)) ∧ w = w' := by
  go_enter Try.func105, Try.ntmps105
  go_wp2
  all_goals
    go_ret
    refine ⟨ret_bool ?_, rfl⟩
    try simp only [beq_iff_eq, beq_eq_false_iff_ne] at *
    rw [Bool.eq_iff_iff]
    unfold resB
    repeat' split
    all_goals first | (simp only [Bool.not_eq_true', Bool.not_eq_false', decide_eq_true_eq, decide_eq_false_iff_not, Bool.and_eq_true, Bool.or_eq_true, Bool.or_eq_false_iff, Bool.and_eq_false_iff, beq_iff_eq, Bool.false_eq_true, false_iff, iff_false, true_iff, iff_true] at *; done) | (simp only [Bool.not_eq_true', Bool.not_eq_false', decide_eq_true_eq, decide_eq_false_iff_not, Bool.and_eq_true, Bool.or_eq_true, Bool.or_eq_false_iff, Bool.and_eq_false_iff, beq_iff_eq, Bool.false_eq_true, false_iff, iff_false, true_iff, iff_true] at *; omega)

theorem answers_any (k n : Int) (w : World) : Calls Try.prog 57 #[.int .i64 k, .int .i64 n] w fun e w' => e = .returned (.bool (ansB k n)) ∧ w = w' := by
  go_enter Try.func57, Try.ntmps57
  go_wp2_with (go_at_call 27; refine (between_any _ _ _ _).mono ?_; rintro e w' ⟨rfl, rfl⟩)
  all_goals
    go_ret
    refine ⟨ret_bool ?_, rfl⟩
    try simp only [beq_iff_eq, beq_eq_false_iff_ne] at *
    rw [Bool.eq_iff_iff]
    unfold ansB
    repeat' split
    all_goals first | (simp only [Bool.not_eq_true', Bool.not_eq_false', decide_eq_true_eq, decide_eq_false_iff_not, Bool.and_eq_true, Bool.or_eq_true, Bool.or_eq_false_iff, Bool.and_eq_false_iff, beq_iff_eq, Bool.false_eq_true, false_iff, iff_false, true_iff, iff_true] at *; done) | (simp only [Bool.not_eq_true', Bool.not_eq_false', decide_eq_true_eq, decide_eq_false_iff_not, Bool.and_eq_true, Bool.or_eq_true, Bool.or_eq_false_iff, Bool.and_eq_false_iff, beq_iff_eq, Bool.false_eq_true, false_iff, iff_false, true_iff, iff_true] at *; omega)
end Go.Proofs.Ytnflkmjfhbfekaa

namespace Go.Proofs.Ytnflkmjfhbfekaa
/-! Sets as ascending lists -/
def Asc (s : List Int) : Prop := s.Pairwise (· < ·)
def posI (s : List Int) (a : Int) : Nat := (s.takeWhile (fun x => decide (x < a))).length
def setStep (kind a : Int) (st : Int × List Int × Bool) (x : Int) : Int × List Int × Bool :=
  let was := if x = a then 1 else st.1
  let p := if a ≤ x ∧ st.2.2 = false then (st.2.1 ++ [a], true) else (st.2.1, st.2.2)
  (was, if x ≠ a ∨ kind = 9 then p.1 ++ [x] else p.1, p.2)
def setFin (kind a : Int) (st : Int × List Int × Bool) : List Int × Int :=
  (if st.2.2 = false then st.2.1 ++ [a] else st.2.1, if kind = 7 then 1 - st.1 else st.1)
def setR (s : List Int) (kind a : Int) : List Int × Int := setFin kind a (s.foldl (setStep kind a) (0, [], !decide (kind = 7)))
theorem pos_split {s : List Int} (h : Asc s) (a : Int) : (∀ x ∈ s.take (posI s a), x < a) ∧ (∀ x ∈ s.drop (posI s a), a ≤ x) ∧ posI s a ≤ s.length := by
  induction s with
  | nil => simp [posI]
  | cons y s ih =>
    obtain ⟨h1, h2⟩ := List.pairwise_cons.1 h
    obtain ⟨i1, i2, i3⟩ := ih h2
    unfold posI at i1 i2 i3 ⊢
    rw [List.takeWhile_cons]
    by_cases hy : y < a
    · simp only [hy, decide_true, if_true, List.length_cons, List.take_succ_cons, List.drop_succ_cons]
      exact ⟨fun x hx => by rcases List.mem_cons.1 hx with rfl | hx; exact hy; exact i1 x hx, i2, by omega⟩
    · simp only [hy, decide_false, Bool.false_eq_true, if_false, List.length_nil, List.take_zero, List.drop_zero]
      refine ⟨by simp, fun x hx => ?_, by simp⟩
      rcases List.mem_cons.1 hx with rfl | hx
      · omega
      · have := h1 x hx; omega
/-- where it stands is told by what is about it -/
theorem pos_of {s : List Int} {a : Int} {i : Nat} (hi : i ≤ s.length) (h1 : ∀ j (hj : j < s.length), j < i → s[j] < a) (h2 : ∀ j (hj : j < s.length), i ≤ j → a ≤ s[j]) : posI s a = i := by
  induction s generalizing i with
  | nil => simp at hi; subst hi; rfl
  | cons y s ih =>
    unfold posI at ih ⊢
    rw [List.takeWhile_cons]
    cases i with
    | zero =>
      have := h2 0 (by simp) (by omega)
      simp only [List.getElem_cons_zero] at this
      have hy : ¬ y < a := by omega
      simp [hy]
    | succ i =>
      have hy := h1 0 (by simp) (by omega)
      simp only [List.getElem_cons_zero] at hy
      simp only [hy, decide_true, if_true, List.length_cons]
      rw [ih (i := i) (by simpa using hi) (fun j hj hji => by have := h1 (j + 1) (by simpa using hj) (by omega); simpa using this) (fun j hj hji => by have := h2 (j + 1) (by simpa using hj) (by omega); simpa using this)]
theorem fold_low (kind a : Int) : ∀ (l : List Int) (was : Int) (out : List Int) (put : Bool), (∀ x ∈ l, x < a) → l.foldl (setStep kind a) (was, out, put) = (was, out ++ l, put)
  | [], was, out, put, _ => by simp
  | x :: l, was, out, put, h => by
    have hx := h x (by simp)
    rw [List.foldl_cons]
    have e1 : x ≠ a := by omega
    have e2 : ¬ a ≤ x := by omega
    have e : setStep kind a (was, out, put) x = (was, out ++ [x], put) := by simp [setStep, e1, e2]
    rw [e, fold_low kind a l _ _ _ (fun y hy => h y (by simp [hy]))]
    simp
theorem fold_high (kind a : Int) : ∀ (l : List Int) (was : Int) (out : List Int), (∀ x ∈ l, a < x) → l.foldl (setStep kind a) (was, out, true) = (was, out ++ l, true)
  | [], was, out, _ => by simp
  | x :: l, was, out, h => by
    have hx := h x (by simp)
    rw [List.foldl_cons]
    have e1 : x ≠ a := by omega
    have e : setStep kind a (was, out, true) x = (was, out ++ [x], true) := by simp [setStep, e1]
    rw [e, fold_high kind a l _ _ (fun y hy => h y (by simp [hy]))]
    simp
/-- what the code does to a set -/
def setP (s : List Int) (kind a : Int) : List Int × Int :=
  if s.contains a = true then (if kind = 7 then (s, 0) else if kind = 8 then (s.take (posI s a) ++ s.drop (posI s a + 1), 1) else (s, 1))
  else (if kind = 7 then (s.take (posI s a) ++ a :: s.drop (posI s a), 1) else (s, 0))
theorem setP_eq {s : List Int} (h : Asc s) (kind a : Int) (hk : kind = 7 ∨ kind = 8 ∨ kind = 9) : setR s kind a = setP s kind a := by
  obtain ⟨p1, p2, p3⟩ := pos_split h a
  unfold setP
  generalize posI s a = i at *
  have hs : s = s.take i ++ s.drop i := (List.take_append_drop i s).symm
  have hap : (s.drop i).Pairwise (· < ·) := h.sublist (List.drop_sublist i s)
  unfold setR
  conv => lhs; rw [hs, List.foldl_append, fold_low kind a _ _ _ _ p1]
  cases hd : s.drop i with
  | nil =>
    have hn : s.contains a = false := by
      rw [Bool.eq_false_iff]; intro hc
      have hm : a ∈ s := by simpa using hc
      rw [hs, hd, List.append_nil] at hm
      have := p1 a hm; omega
    rw [if_neg (by rw [hn]; simp)]
    have ht : s.take i = s := by rw [hd, List.append_nil] at hs; exact hs.symm
    rcases hk with rfl | rfl | rfl <;> simp [setFin, ht]
  | cons y r =>
    rw [hd] at hap p2 hs
    obtain ⟨q1, q2⟩ := List.pairwise_cons.1 hap
    have hy := p2 y (by simp)
    have hr : ∀ x ∈ r, a < x := fun x hx => by have := q1 x hx; omega
    have hdr : s.drop (i + 1) = r := by rw [← List.drop_drop, hd]; rfl
    by_cases e : y = a
    · subst e
      have hc : s.contains y = true := by rw [hs]; simp
      rw [if_pos hc, hdr]
      have e1 : ∀ (was : Int) (out : List Int) (put : Bool), setStep 7 y (was, out, false) y = (1, out ++ [y], true) := by intro was out put; simp [setStep]
      rcases hk with rfl | rfl | rfl
      · have : setStep 7 y (0, [] ++ s.take i, !decide ((7 : Int) = 7)) y = (1, s.take i ++ [y], true) := by simp [setStep]
        rw [List.foldl_cons, this, fold_high 7 y r _ _ hr]
        simp only [setFin]
        rw [if_neg (by simp), if_pos trivial, if_pos trivial]
        simp only [List.append_assoc, List.singleton_append]
        rw [← hs]; rfl
      · have : setStep 8 y (0, [] ++ s.take i, !decide ((8 : Int) = 7)) y = (1, s.take i, true) := by simp [setStep]
        rw [List.foldl_cons, this, fold_high 8 y r _ _ hr]
        simp [setFin]
      · have : setStep 9 y (0, [] ++ s.take i, !decide ((9 : Int) = 7)) y = (1, s.take i ++ [y], true) := by simp [setStep]
        rw [List.foldl_cons, this, fold_high 9 y r _ _ hr]
        simp only [setFin]
        rw [if_neg (by simp), if_neg (by decide), if_neg (by decide), if_neg (by decide)]
        simp only [List.append_assoc, List.singleton_append]
        rw [← hs]
    · have hya : a < y := by omega
      have hn : s.contains a = false := by
        rw [Bool.eq_false_iff]; intro hc
        have hm : a ∈ s := by simpa using hc
        rw [hs] at hm
        rcases List.mem_append.1 hm with hm | hm
        · have := p1 a hm; omega
        · rcases List.mem_cons.1 hm with rfl | hm
          · omega
          · have := hr a hm; omega
      rw [if_neg (by rw [hn]; simp)]
      have hay : a ≤ y := by omega
      rcases hk with rfl | rfl | rfl
      · have : setStep 7 a (0, [] ++ s.take i, !decide ((7 : Int) = 7)) y = (0, s.take i ++ [a] ++ [y], true) := by simp [setStep, e, hay]
        rw [List.foldl_cons, this, fold_high 7 a r _ _ hr]
        simp [setFin]
      · have : setStep 8 a (0, [] ++ s.take i, !decide ((8 : Int) = 7)) y = (0, s.take i ++ [y], true) := by simp [setStep, e]
        rw [List.foldl_cons, this, fold_high 8 a r _ _ hr]
        simp only [setFin]
        rw [if_neg (by simp), if_neg (by decide), if_neg (by decide)]
        simp only [List.append_assoc, List.singleton_append]
        rw [← hs]
      · have : setStep 9 a (0, [] ++ s.take i, !decide ((9 : Int) = 7)) y = (0, s.take i ++ [y], true) := by simp [setStep, e]
        rw [List.foldl_cons, this, fold_high 9 a r _ _ hr]
        simp only [setFin]
        rw [if_neg (by simp), if_neg (by decide), if_neg (by decide)]
        simp only [List.append_assoc, List.singleton_append]
        rw [← hs]
/-! States -/
def okI (x : Int) : Bool := decide (1 ≤ x) && decide (x ≤ 1000)
def ascB (s : List Int) : Bool := (List.range (s.length - 1)).all fun j => decide (s.getD j 0 < s.getD (j + 1) 0)
theorem ascB_iff (s : List Int) : ascB s = true ↔ ∀ j, j + 1 < s.length → s.getD j 0 < s.getD (j + 1) 0 := by
  unfold ascB
  rw [List.all_eq_true]
  constructor
  · intro h j hj
    simpa using h j (by rw [List.mem_range]; omega)
  · intro h j hj
    rw [List.mem_range] at hj
    simpa using h j (by omega)
theorem asc_of {s : List Int} (h : ascB s = true) : Asc s := by
  rw [ascB_iff] at h
  unfold Asc
  induction s with
  | nil => exact .nil
  | cons x s ih =>
    have hs := ih (fun j hj => by have := h (j + 1) (by simpa using hj); simpa using this)
    refine List.pairwise_cons.2 ⟨fun y hy => ?_, hs⟩
    cases s with
    | nil => simp at hy
    | cons z s =>
      have h0 := h 0 (by simp)
      simp only [List.getD_cons_zero, List.getD_cons_succ] at h0
      rcases List.mem_cons.1 hy with rfl | hy
      · exact h0
      · have := (List.pairwise_cons.1 hs).1 y hy
        omega
def oneB (s : List Int) : Bool := decide (s.length = 1) && (decide (0 ≤ s.getD 0 0) && decide (s.getD 0 0 ≤ 1000))
def validS (typ : Int) (s : List Int) : Bool := if typ = 1 ∨ typ = 5 then oneB s else if typ = 4 then ascB s && s.all okI else s.all okI
def typB (typ : Int) : Bool := decide (1 ≤ typ) && decide (typ ≤ 5)
def chkS (typ : Int) (s : List Int) : Int := if typB typ = true then (if 50 < s.length then 2 else if validS typ s = true then 0 else 3) else 1
/-! Steps -/
/-- what a step answers: the state behind, the answer, what is wrong -/
abbrev Res := List Int × Int × Int
def stepP (typ : Int) (s : List Int) (kind a : Int) : Res :=
  if typ = 1 then (if kind = 1 then ([a], 0, 0) else (s, s.getD 0 0, 0))
  else if typ = 2 then (if kind = 3 then (if s.length = 50 then ([], 0, 2) else (s ++ [a], 0, 0)) else if s.length = 0 then (s, -1, 0) else (s.drop 1, s.getD 0 0, 0))
  else if typ = 3 then (if kind = 5 then (if s.length = 50 then ([], 0, 2) else (s ++ [a], 0, 0)) else if s.length = 0 then (s, -1, 0) else (s.take (s.length - 1), s.getD (s.length - 1) 0, 0))
  else if typ = 4 then (if kind = 7 ∧ s.contains a = false ∧ s.length = 50 then ([], 0, 2) else ((setP s kind a).1, (setP s kind a).2, 0))
  else (if s.getD 0 0 = 1000 then ([], 0, 2) else ([s.getD 0 0 + 1], s.getD 0 0, 0))
def stepR (s : List Int) (kind a : Int) : Res :=
  if (kind = 3 ∨ kind = 5 ∨ kind = 7 ∧ s.contains a = false) ∧ s.length = 50 ∨ kind = 10 ∧ s.getD 0 0 = 1000 then ([], 0, 2)
  else if kind = 1 then ([a], 0, 0)
  else if kind = 2 then (s, s.getD 0 0, 0)
  else if kind = 3 ∨ kind = 5 then (s ++ [a], 0, 0)
  else if kind = 4 ∨ kind = 6 then (if s.length = 0 then (s, -1, 0) else if kind = 4 then (s.drop 1, s.getD 0 0, 0) else (s.take (s.length - 1), s.getD (s.length - 1) 0, 0))
  else if kind = 10 then ([s.getD 0 0 + 1], s.getD 0 0, 0)
  else ((setR s kind a).1, (setR s kind a).2, 0)
/-- a type and a kind that go together -/
def fitB (typ kind : Int) : Prop := typ = 1 ∧ (kind = 1 ∨ kind = 2) ∨ typ = 2 ∧ (kind = 3 ∨ kind = 4) ∨ typ = 3 ∧ (kind = 5 ∨ kind = 6) ∨ typ = 4 ∧ (kind = 7 ∨ kind = 8 ∨ kind = 9) ∨ typ = 5 ∧ kind = 10
theorem step_eq {typ : Int} {s : List Int} {kind a : Int} (hv : validS typ s = true) (hf : fitB typ kind) : stepR s kind a = stepP typ s kind a := by
  rcases hf with ⟨rfl, rfl | rfl⟩ | ⟨rfl, rfl | rfl⟩ | ⟨rfl, rfl | rfl⟩ | ⟨rfl, hk⟩ | ⟨rfl, rfl⟩
  · simp [stepR, stepP]
  · simp [stepR, stepP]
  · simp [stepR, stepP]
  · simp [stepR, stepP]
  · simp [stepR, stepP]
  · simp [stepR, stepP]
  · have hs : Asc s := by
      have : ascB s = true := by
        simp only [validS] at hv
        rw [if_neg (by decide), if_pos trivial, Bool.and_eq_true] at hv
        exact hv.1
      exact asc_of this
    have he := setP_eq hs kind a hk
    rcases hk with rfl | rfl | rfl
    · simp [stepR, stepP, he]
    · simp [stepR, stepP, he]
    · simp [stepR, stepP, he]
  · simp [stepR, stepP]
theorem all_okI_of {s t : List Int} (h : s.all okI = true) (hs : ∀ x ∈ t, x ∈ s) : t.all okI = true := by
  rw [List.all_eq_true] at h ⊢
  exact fun x hx => h x (hs x hx)
theorem ascB_of {s : List Int} (h : Asc s) : ascB s = true := by
  rw [ascB_iff]
  intro j hj
  have h1 : s.getD j 0 = s[j] := by simp [List.getD_eq_getElem?_getD, show j < s.length by omega]
  have h2 : s.getD (j + 1) 0 = s[j + 1] := by simp [List.getD_eq_getElem?_getD, hj]
  rw [h1, h2]
  exact (List.pairwise_iff_getElem.1 h) j (j + 1) (by omega) hj (by omega)
theorem setP_valid {s : List Int} {kind a : Int} (hs : Asc s) (ho : s.all okI = true) (ha : okI a = true) : Asc (setP s kind a).1 ∧ (setP s kind a).1.all okI = true := by
  obtain ⟨p1, p2, p3⟩ := pos_split hs a
  unfold setP
  generalize posI s a = i at *
  have hsp : s = s.take i ++ s.drop i := (List.take_append_drop i s).symm
  split
  · split
    · exact ⟨hs, ho⟩
    · split
      · refine ⟨?_, all_okI_of ho fun x hx => ?_⟩
        · have : (s.take i ++ s.drop (i + 1)).Sublist s := by
            conv => rhs; rw [hsp]
            refine List.Sublist.append (List.Sublist.refl _) ?_
            rw [← List.drop_drop]
            exact List.drop_sublist 1 _
          exact hs.sublist this
        · rcases List.mem_append.1 hx with h | h
          · exact List.mem_of_mem_take h
          · exact List.mem_of_mem_drop h
      · exact ⟨hs, ho⟩
  · rename_i hc
    split
    · refine ⟨?_, ?_⟩
      · unfold Asc at hs ⊢
        rw [hsp, List.pairwise_append] at hs
        obtain ⟨q1, q2, q3⟩ := hs
        rw [List.pairwise_append, List.pairwise_cons]
        refine ⟨q1, ⟨fun y hy => ?_, q2⟩, fun x hx y hy => ?_⟩
        · have h1 := p2 y hy
          have h2 : a ≠ y := fun e => by
            subst e
            exact hc (by simpa using List.mem_of_mem_drop hy)
          omega
        · rcases List.mem_cons.1 hy with rfl | hy
          · exact p1 x hx
          · exact q3 x hx y hy
      · rw [List.all_append, List.all_cons, ha, Bool.true_and, Bool.and_eq_true]
        exact ⟨all_okI_of ho fun x hx => List.mem_of_mem_take hx, all_okI_of ho fun x hx => List.mem_of_mem_drop hx⟩
    · exact ⟨hs, ho⟩
theorem setP_len {s : List Int} {kind a : Int} (h50 : s.length ≤ 50) (hn : ¬ (kind = 7 ∧ s.contains a = false ∧ s.length = 50)) : (setP s kind a).1.length ≤ 50 := by
  unfold setP
  split
  · split
    · exact h50
    · split
      · simp only [List.length_append, List.length_take, List.length_drop]; omega
      · exact h50
  · rename_i hc
    split
    · rename_i hk
      have hc' : s.contains a = false := by simpa using hc
      have : s.length ≠ 50 := fun e => hn ⟨hk, hc', e⟩
      simp only [List.length_append, List.length_take, List.length_cons, List.length_drop]; omega
    · exact h50
theorem chkS_ok {typ : Int} {s : List Int} (h : chkS typ s = 0) : typB typ = true ∧ s.length ≤ 50 ∧ validS typ s = true := by
  unfold chkS at h
  split at h
  · rename_i h1
    split at h
    · cases h
    · split at h
      · exact ⟨h1, by omega, by assumption⟩
      · cases h
  · cases h
theorem chkS_mk {typ : Int} {s : List Int} (h1 : typB typ = true) (h2 : s.length ≤ 50) (h3 : validS typ s = true) : chkS typ s = 0 := by
  unfold chkS
  rw [if_pos h1, if_neg (by omega), if_pos h3]
theorem okI_of {kind a : Int} (h : argB kind a = true) (hk : ¬ (kind = 2 ∨ kind = 4 ∨ kind = 6 ∨ kind = 10)) : okI a = true := by
  unfold argB at h
  rw [if_neg hk] at h
  simp only [decide_eq_true_eq] at h
  simp [okI, h.1, h.2]
theorem step_valid {typ : Int} {s : List Int} {kind a : Int} (h : chkS typ s = 0) (hf : fitB typ kind) (ha : argB kind a = true) (he : (stepP typ s kind a).2.2 = 0) : chkS typ (stepP typ s kind a).1 = 0 := by
  obtain ⟨h1, h2, h3⟩ := chkS_ok h
  rcases hf with ⟨rfl, rfl | rfl⟩ | ⟨rfl, rfl | rfl⟩ | ⟨rfl, rfl | rfl⟩ | ⟨rfl, hk⟩ | ⟨rfl, rfl⟩
  · have := okI_of ha (by decide)
    simp only [okI, Bool.and_eq_true, decide_eq_true_eq] at this
    refine chkS_mk h1 (by simp [stepP]) ?_
    simp [stepP, validS, oneB]; omega
  · simpa [stepP] using h
  · have := okI_of ha (by decide)
    simp only [stepP] at he ⊢
    by_cases h50 : s.length = 50
    · simp [h50] at he
    · simp only [h50]
      refine chkS_mk h1 (by simp; omega) ?_
      simp only [validS] at h3 ⊢
      simpa [this] using h3
  · simp only [stepP] at he ⊢
    by_cases h0 : s.length = 0
    · simpa [h0] using h
    · refine chkS_mk h1 (by simp [h0]; omega) ?_
      simp only [validS, h0] at h3 ⊢
      have h3' : s.all okI = true := by simpa using h3
      simpa using all_okI_of h3' (t := s.drop 1) fun x hx => List.mem_of_mem_drop hx
  · have := okI_of ha (by decide)
    simp only [stepP] at he ⊢
    by_cases h50 : s.length = 50
    · simp [h50] at he
    · simp only [h50]
      refine chkS_mk h1 (by simp; omega) ?_
      simp only [validS] at h3 ⊢
      simpa [this] using h3
  · simp only [stepP] at he ⊢
    by_cases h0 : s.length = 0
    · simpa [h0] using h
    · refine chkS_mk h1 (by simp [h0]; omega) ?_
      simp only [validS, h0] at h3 ⊢
      have h3' : s.all okI = true := by simpa using h3
      simpa using all_okI_of h3' (t := s.take (s.length - 1)) fun x hx => List.mem_of_mem_take hx
  · have ho := okI_of ha (by omega)
    have h3' : ascB s = true ∧ s.all okI = true := by simpa [validS] using h3
    obtain ⟨v1, v2⟩ := setP_valid (kind := kind) (asc_of h3'.1) h3'.2 ho
    have e : (4 : Int) = 4 := rfl
    by_cases hfull : kind = 7 ∧ s.contains a = false ∧ s.length = 50
    · unfold stepP at he
      rw [if_neg (by decide), if_neg (by decide), if_neg (by decide), if_pos rfl, if_pos hfull] at he; cases he
    · have hs : stepP 4 s kind a = ((setP s kind a).1, (setP s kind a).2, 0) := by
        unfold stepP
        rw [if_neg (by decide), if_neg (by decide), if_neg (by decide), if_pos rfl, if_neg hfull]
      rw [hs]
      refine chkS_mk h1 (setP_len h2 hfull) ?_
      simp only [validS]
      rw [if_neg (by decide), if_pos trivial, Bool.and_eq_true]
      exact ⟨ascB_of v1, v2⟩
  · simp only [stepP] at he ⊢
    have h3' : oneB s = true := by simpa [validS] using h3
    simp only [oneB, Bool.and_eq_true, decide_eq_true_eq] at h3'
    by_cases hm : s.getD 0 0 = 1000
    · rw [if_neg (by decide), if_neg (by decide), if_neg (by decide), if_neg (by decide), if_pos hm] at he; cases he
    · rw [if_neg (by decide), if_neg (by decide), if_neg (by decide), if_neg (by decide), if_neg hm]
      refine chkS_mk h1 (by simp) ?_
      simp only [validS, oneB, List.getD_cons_zero, List.length_singleton]
      rw [if_pos (by decide), Bool.and_eq_true, Bool.and_eq_true, decide_eq_true_eq, decide_eq_true_eq, decide_eq_true_eq]
      exact ⟨trivial, by omega, by omega⟩
theorem step_bad {typ : Int} {s : List Int} {kind a : Int} (h : (stepP typ s kind a).2.2 ≠ 0) : stepP typ s kind a = ([], 0, 2) := by
  unfold stepP at h ⊢
  repeat' split at h
  all_goals first | (exact absurd rfl h) | skip
  all_goals simp_all
/-- how many of what is done may be -/
def playF (typ : Int) (s : List Int) : List (Int × Int × Int) → Nat
  | [] => 0
  | (k, a, r) :: l => match stepP typ s k a with
    | (next, n, e) => if e = 0 ∧ n = r then playF typ next l + 1 else 0
end Go.Proofs.Ytnflkmjfhbfekaa
