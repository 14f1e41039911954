/- A relation's cells: when two of them are one, as the program's == says. -/
import Derived.Test.YtppicbdaijiifaaRows
import Derived.Test.YtppicbdaijiifaaBase
import Derived.ChangeKeysEq
set_option linter.unusedSimpArgs false
set_option linter.unusedVariables false
set_option linter.unusedSectionVars false
set_option linter.unnecessarySimpa false
namespace Go.Proofs.Ytppicbdaijiifaa
open Go.RowKit
theorem relCells_get0 (n : Int) (f : Nat → Nat) (h : 0 < (relCells n f).size) : (relCells n f)[0] = .int .i64 n := by
  have := relCells_n n f
  rw [Array.getElem?_eq_getElem h] at this
  exact Option.some.inj this
theorem relCells_getS (n : Int) (f : Nat → Nat) (i : Nat) (h : 1 + i < (relCells n f).size) : (relCells n f)[1 + i] = .int .u16 (f i) := by
  have := relCells_at n f i (by rw [relCells_size] at h; omega)
  rw [Array.getElem?_eq_getElem h] at this
  exact Option.some.inj this
def eqTo (f g : Nat → Nat) (is : List Nat) : Bool := is.all fun i => f i == g i
theorem rel_info (n : Int) (f : Nat → Nat) : (Try.prog.info? 42).map (·.size) = some (relCells n f).size := by
  rw [relCells_size]; kernel_rfl
theorem exec_load_rel (ev : Operand → Value) (dst : Option Tmp) (x : Operand) (t : TypeId) (pos : String) (after : Array Edge) (guard : Option (Nat × Bool)) (w : World) (h : isRow w 13 (ev x) = true) :
    (execOp ev { dst, op := .load 42 x, type := t, pos, after, guard }).run Try.prog w = .ok (.value (.agg (rowOf w (ptrBlk (ev x))))) w :=
  exec_load_row 42 13 _ (by decide) Try.underlying42 rfl (by kernel_rfl) ev dst x t pos after guard w h
theorem exec_store_rel (ev : Operand → Value) (dst : Option Tmp) (x y : Operand) (t : TypeId) (pos : String) (after : Array Edge) (guard : Option (Nat × Bool)) (w : World) (h : isRow w 13 (ev x) = true) (h2 : isAggOf 13 (ev y) = true) :
    (execOp ev { dst, op := .store 42 x y, type := t, pos, after, guard }).run Try.prog w = .ok .skip (w.setRow (ptrBlk (ev x)) (aggOf (ev y))) :=
  exec_store_row 42 13 (by decide) (by kernel_rfl) ev dst x y t pos after guard w h h2
theorem u16s_at (f : Nat → Nat) (i : Nat) (h : i < 12) : (u16s f 12).toArray[i]? = some (.int .u16 (f i)) := by simp [u16s, h]
theorem relCells_ext (n : Int) (f : Nat → Nat) : (relCells n f).extract 1 13 = (u16s f 12).toArray := by
  rfl
theorem run_items (f g : Nat → Nat) (w : World) (d : Nat) : ∀ is : List Nat, (∀ i ∈ is, i < 12) →
    (Op.eqItems (d + 1) 39 1 (u16s f 12).toArray (u16s g 12).toArray is).run Try.prog w = .ok (eqTo f g is) w
  | [], _ => by simp [Op.eqItems, eqTo]
  | i :: is, h => by
    have ih := run_items f g w d is (fun j hj => h j (List.mem_cons_of_mem _ hj))
    have hi := h i (List.mem_cons_self ..)
    have p : ∀ f : Nat → Nat, (part 39 (u16s f 12).toArray (i * 1)).run Try.prog w = .ok (.int .u16 (f i)) w := fun f => by
      simp [part, u16s_at f i hi]
    simp only [Op.eqItems, Sem.run_bind, p, Result.andThen_ok, run_equalIn_int w d 39 .u16 .u16 _ _ Try.underlying39]
    by_cases he : f i = g i
    · have : (((f i : Nat) : Int) == (g i : Nat)) = true := by simp [he]
      simp [this, ih, eqTo, he]
    · have : (((f i : Nat) : Int) == (g i : Nat)) = false := by simp; omega
      simp [this, eqTo, he]
theorem eqTo_iff (f g : Nat → Nat) (n : Nat) : eqTo f g (List.range n) = true ↔ ∀ i, i < n → f i = g i := by
  simp [eqTo]
def relEq (f g : Nat → Nat) : Bool := eqTo f g (List.range 12)
theorem relEq_iff (f g : Nat → Nat) : relEq f g = true ↔ ∀ i, i < 12 → f i = g i := eqTo_iff f g 12
theorem relEq_same (f g : Nat → Nat) (h : ∀ i, i < 12 → f i = g i) : relEq f g = true := (relEq_iff f g).2 h
set_option maxRecDepth 40000 in
theorem run_arr_rel (f g : Nat → Nat) (d : Nat) (w : World) : (Op.equalIn (d + 2) 40 (.agg (u16s f 12).toArray) (.agg (u16s g 12).toArray)).run Try.prog w = .ok (relEq f g) w := by
  rw [run_equalIn_array w (d + 1) _ _ Try.underlying40 (i := Try.t39) Try.type39]
  exact run_items f g w d (List.range 12) (by simp)
theorem run_eql_rel (n m : Int) (f g : Nat → Nat) (w : World) :
    (binOp .eql 42 (.agg (relCells n f)) (.agg (relCells m g))).run Try.prog w = .ok (.bool (n == m && relEq f g)) w := by
  have ha := run_arr_rel f g 9997
  simp only [Nat.reduceAdd] at ha
  rw [run_eql_struct]
  go_simp
  simp only [relCells_n, relCells_ext, Sem.run_pure, Result.andThen_ok, ha]
  rw [run_equalIn_int w 9998 3 .i64 .i64 _ _ Try.underlying3]
  simp only [Result.andThen_ok]
  cases h : (n == m)
  · simp
  · simp only [Bool.true_eq_false, if_false]
    cases relEq f g <;> simp
set_option maxRecDepth 40000 in
theorem run_neq_rel (n m : Int) (f g : Nat → Nat) (w : World) :
    (binOp .neq 42 (.agg (relCells n f)) (.agg (relCells m g))).run Try.prog w = .ok (.bool (!(n == m && relEq f g))) w := by
  have h := run_eql_rel n m f g w
  rw [run_eql_struct] at h
  rw [run_neq_struct]
  cases hr : (Op.equalIn 10000 42 (.agg (relCells n f)) (.agg (relCells m g))).run Try.prog w with
  | ok b w' =>
    rw [hr] at h
    simp only [Result.andThen_ok] at h ⊢
    injection h with h1 h2
    injection h1 with h1
    rw [h1, h2]
  | halt x w' => rw [hr] at h; cases h
theorem run_eqGuard_rel (op : BinOp) (x y : Operand) (xs ys : Array Value) (w : World) : (eqGuard op 42 x y (.agg xs) (.agg ys)).run Try.prog w = .ok () w :=
  run_eqGuard_agg w op _ x y xs ys Try.eqGuardType42
end Go.Proofs.Ytppicbdaijiifaa
