/- Lemmas for the walks (Bdq, Spq, Law). No condition. -/
import Derived.Test.YtbhjljnbjomnhaaG09
import Derived.Test.YtbhjljnbjomnhaaG15
import Derived.Test.YtbhjljnbjomnhaaG07
import Derived.Test.YtbhjljnbjomnhaaRows
import Derived.Test.YtbhjljnbjomnhaaG01
import Derived.ProofKit
import Derived.Deep.Slices
import Derived.Deep.Fields
import Derived.Lib.SmallJoins
import Derived.ChangeSlices
set_option linter.unusedSimpArgs false
set_option linter.unusedVariables false
set_option linter.unusedSectionVars false
set_option linter.unnecessarySimpa false
namespace Go.Proofs.Ytbhjljnbjomnhaa
open Go.RowKit

def bdL (a b c : Int) : Value := .agg #[.int .i64 a, .int .i64 b, .int .i64 c]
set_option maxRecDepth 40000 in
theorem run_neq_bd (a b c a' b' c' : Int) (w : World) : (binOp .neq 48 (.agg #[.int .i64 a, .int .i64 b, .int .i64 c]) (.agg #[.int .i64 a', .int .i64 b', .int .i64 c'])).run Try.prog w = .ok (.bool (!(decide (a = a') && (decide (b = b') && decide (c = c'))))) w := by
  rw [run_neq_struct]
  go_simp
  repeat' split
  all_goals simp_all
set_option maxRecDepth 40000 in
theorem run_eql_bd (a b c a' b' c' : Int) (w : World) : (binOp .eql 48 (.agg #[.int .i64 a, .int .i64 b, .int .i64 c]) (.agg #[.int .i64 a', .int .i64 b', .int .i64 c'])).run Try.prog w = .ok (.bool (decide (a = a') && (decide (b = b') && decide (c = c')))) w := by
  rw [run_eql_struct]
  go_simp
  repeat' split
  all_goals simp_all
theorem run_eqGuard_bd (op : BinOp) (x y : Operand) (xs ys : Array Value) (w : World) : (eqGuard op 48 x y (.agg xs) (.agg ys)).run Try.prog w = .ok () w :=
  run_eqGuard_agg w op _ x y xs ys Try.eqGuardType48
section
variable {C : Ctx} {E : Slots} {S : List Ent} {ty ty3 : Nat} {x y : Operand} {a b c a' b' c' : Int}
theorem QS_neqBd (hx : evo E x = some (.agg #[.int .i64 a, .int .i64 b, .int .i64 c])) (hy : evo E y = some (.agg #[.int .i64 a', .int .i64 b', .int .i64 c'])) : QS Try.prog C E S (.binOp .neq 48 x y ty3) ty (.bool (!(decide (a = a') && (decide (b = b') && decide (c = c'))))) :=
  QS.of (fun f w ha _ => by
    have h2 := run_neq_bd a b c a' b' c' w
    have hg := run_eqGuard_bd .neq x y #[.int .i64 a, .int .i64 b, .int .i64 c] #[.int .i64 a', .int .i64 b', .int .i64 c'] w
    simp only [execOp, ha.evo hx, ha.evo hy, Sem.run_bind, hg, Result.andThen_ok, h2]
    simp)
theorem QS_eqlBd (hx : evo E x = some (.agg #[.int .i64 a, .int .i64 b, .int .i64 c])) (hy : evo E y = some (.agg #[.int .i64 a', .int .i64 b', .int .i64 c'])) : QS Try.prog C E S (.binOp .eql 48 x y ty3) ty (.bool (decide (a = a') && (decide (b = b') && decide (c = c')))) :=
  QS.of (fun f w ha _ => by
    have h2 := run_eql_bd a b c a' b' c' w
    have hg := run_eqGuard_bd .eql x y #[.int .i64 a, .int .i64 b, .int .i64 c] #[.int .i64 a', .int .i64 b', .int .i64 c'] w
    simp only [execOp, ha.evo hx, ha.evo hy, Sem.run_bind, hg, Result.andThen_ok, h2]
    rfl)
end
end Go.Proofs.Ytbhjljnbjomnhaa

namespace Go.Proofs.Ytbhjljnbjomnhaa
open Go.RowKit

def spnEqB (x y : Spn) : Bool := decide (x.frm = y.frm) && (decide (x.til = y.til))
theorem spnEqB_eq (x y : Spn) : spnEqB x y = true ↔ x = y := by
  cases x; cases y
  simp [spnEqB]
theorem spnCells (v : Spn) : Spn.enc v = [.int .i64 v.frm, .int .i64 v.til] := rfl
set_option maxRecDepth 40000 in
theorem run_neq_spn (x y : Spn) (w : World) : (binOp .neq 63 (.agg (Spn.enc x).toArray) (.agg (Spn.enc y).toArray)).run Try.prog w = .ok (.bool (!spnEqB x y)) w := by
  obtain ⟨x1, x2⟩ := x
  obtain ⟨y1, y2⟩ := y
  rw [spnCells, spnCells, run_neq_struct]
  go_simp
  unfold spnEqB
  repeat' split
  all_goals simp_all
theorem run_eqGuard_spn (op : BinOp) (x y : Operand) (xs ys : Array Value) (w : World) : (eqGuard op 63 x y (.agg xs) (.agg ys)).run Try.prog w = .ok () w :=
  run_eqGuard_agg w op _ x y xs ys Try.eqGuardType63
section
variable {C : Ctx} {E : Slots} {S : List Ent} {ty ty3 : Nat} {x y : Operand} (u v : Spn)
theorem QS_neqSpn (hx : evo E x = some (.agg (Spn.enc u).toArray)) (hy : evo E y = some (.agg (Spn.enc v).toArray)) : QS Try.prog C E S (.binOp .neq 63 x y ty3) ty (.bool (!spnEqB u v)) :=
  QS.of (fun a w ha _ => by
    have h2 := run_neq_spn u v w
    have hg := run_eqGuard_spn .neq x y (Spn.enc u).toArray (Spn.enc v).toArray w
    simp only [execOp, ha.evo hx, ha.evo hy, Sem.run_bind, hg, Result.andThen_ok, h2]
    simp)
end
set_option maxRecDepth 100000 in
set_option maxHeartbeats 2000000 in
theorem equalSpn_any (A B : Option Addr) (c d : Nat) (l m : List Spn) (w : World) (hl : l.length ≤ 9223372036854775807) (hm : m.length ≤ 9223372036854775807) (hA : RdE Spn.enc 2 w A l) (hB : RdE Spn.enc 2 w B m) :
    Calls Try.prog 26 #[.slice A l.length c, .slice B m.length d] w fun e w' => e = .returned (.bool (decide (l = m))) ∧ Below w.heap.size w w' := by
  refine calls_T (S := []) [] Try.func26 rfl Try.ntmps26 (by simp) (Mem.nil _) ?_
  repeat' (first | ((first | with_reducible (first | apply TL_q | apply TD_q0 | apply TD_q1 | apply TD_q2 | apply TD_q3) | ((with_reducible (first | apply TD_q0y | apply TD_q1y)); exact rfl; exact rfl; (with_reducible exact rfl))); (first | exact QS.auto | ((with_reducible apply QS_neqSpn); exact rfl; exact rfl)); exact rfl) | (refine GO ?_) | (refine GOE ?_; (first | (rintro _ _ ⟨rfl, rfl⟩) | (rintro _ _ ⟨g, rfl, rfl⟩) | (rintro _ _ ⟨A', c', rfl, rfl⟩))) | ((refine GO2 ?_ ?_) <;> intro h <;> (try (repeat (first | with_reducible (replace h := of_decide_eq_true h) | with_reducible (replace h := of_decide_eq_false h) | with_reducible (replace h := bnt h) | with_reducible (replace h := bnf h) | with_reducible (replace h := Int.not_lt.mp h) | with_reducible (replace h := Int.not_le.mp h) | with_reducible (replace h := band_dec h) | with_reducible (replace h := band_decF h) | with_reducible (replace h := bor_dec h) | with_reducible (replace h := bor_decF h)))) <;> (try (exfalso; first | contradiction | omega))) | fail)
  · (refine At_ret Try.results26 rfl (fun w' hw => ?_))
    rw [decide_eq_false (fun e => by subst e; omega)]
    exact ⟨rfl, hw.below0 rfl⟩
  have hlen : l.length = m.length := by omega
  refine T_loop (X := Nat) (fun k => [(13, .int .i64 (k : Nat)), (12, .int .i64 l.length), (1, .slice B m.length d), (0, .slice A l.length c)])
    (fun _ => []) (fun k => k ≤ l.length ∧ Hid (∀ j, j < k → l[j]? = m[j]?)) (fun k => l.length - k) 0 ⟨by omega, Lib.hid (by omega)⟩ (by (repeat (first | exact SubE.nil _ | refine SubE.cons rfl ?_))) (by exact SUBS) ?_
  rintro k ⟨hk, hall⟩
  by_cases hlt : k < l.length
  · obtain ⟨b, o, rfl, hb0⟩ := RdE.open hA (by omega)
    obtain ⟨b2, o2, rfl, hb2⟩ := RdE.open hB (by omega)
    have hlt2 : k < m.length := by omega
    have hev := spnEqB_eq l[k] m[k]
    repeat' (first | ((first | with_reducible (first | apply TL_q | apply TD_q0 | apply TD_q1 | apply TD_q2 | apply TD_q3) | ((with_reducible (first | apply TD_q0y | apply TD_q1y)); exact rfl; exact rfl; (with_reducible exact rfl))); (first | exact QS.auto | ((with_reducible apply QS_neqSpn); exact rfl; exact rfl)); exact rfl) | (refine GG ?_) | (refine GE ?_; (first | (rintro _ _ ⟨rfl, rfl⟩) | (rintro _ _ ⟨g, rfl, rfl⟩) | (rintro _ _ ⟨A', c', rfl, rfl⟩)); (try refine ⟨SUB, ?_⟩)) | ((refine GO2 ?_ ?_) <;> intro h <;> (try (repeat (first | with_reducible (replace h := of_decide_eq_true h) | with_reducible (replace h := of_decide_eq_false h) | with_reducible (replace h := bnt h) | with_reducible (replace h := bnf h) | with_reducible (replace h := Int.not_lt.mp h) | with_reducible (replace h := Int.not_le.mp h) | with_reducible (replace h := band_dec h) | with_reducible (replace h := band_decF h) | with_reducible (replace h := bor_dec h) | with_reducible (replace h := bor_decF h)))) <;> (try (exfalso; first | contradiction | omega))) | (refine GOF ?_ ?_) | ((with_reducible apply T_draw (id := 6) 1000 (OT.seq [(0, 0), (0, 1), (0, 2), (0, 4), (0, 5), (0, 6), (1, 3), (1, 7), (0, 8)] .nil)); kernel_rfl; exact rfl; kernel_rfl; (repeat (first | with_reducible exact Blind.body | with_reducible apply Blind.seq | with_reducible apply Blind.block))) | fail)
    · (refine At_ret Try.results26 rfl (fun w' hw => ?_))
      have hne : ¬ l[k] = m[k] := fun e => by
        have h1 : spnEqB l[k] m[k] = false := by assumption
        rw [hev.2 e] at h1; cases h1
      rw [decide_eq_false (fun e => hne (by subst e; rfl))]
      exact ⟨rfl, hw.below0 rfl⟩
    · have he : l[k] = m[k] := hev.1 (by assumption)
      (refine At_rounds (k + 1) ?_ ?_ ?_ ?_; (exact ⟨by show k + 1 ≤ l.length; omega, Lib.hid (fun j hj => by
        by_cases e : j = k
        · subst e; rw [List.getElem?_eq_getElem hlt, List.getElem?_eq_getElem hlt2, he]
        · exact hall.out j (by omega))⟩); (omega); ((repeat (first | exact SubE.nil _ | refine SubE.cons rfl ?_))); (exact SUBS))
  · obtain rfl : k = l.length := by omega
    repeat' (first | ((first | with_reducible (first | apply TL_q | apply TD_q0 | apply TD_q1 | apply TD_q2 | apply TD_q3) | ((with_reducible (first | apply TD_q0y | apply TD_q1y)); exact rfl; exact rfl; (with_reducible exact rfl))); (first | exact QS.auto | ((with_reducible apply QS_neqSpn); exact rfl; exact rfl)); exact rfl) | (refine GO ?_) | (refine GOE ?_; (first | (rintro _ _ ⟨rfl, rfl⟩) | (rintro _ _ ⟨g, rfl, rfl⟩) | (rintro _ _ ⟨A', c', rfl, rfl⟩))) | ((refine GO2 ?_ ?_) <;> intro h <;> (try (repeat (first | with_reducible (replace h := of_decide_eq_true h) | with_reducible (replace h := of_decide_eq_false h) | with_reducible (replace h := bnt h) | with_reducible (replace h := bnf h) | with_reducible (replace h := Int.not_lt.mp h) | with_reducible (replace h := Int.not_le.mp h) | with_reducible (replace h := band_dec h) | with_reducible (replace h := band_decF h) | with_reducible (replace h := bor_dec h) | with_reducible (replace h := bor_decF h)))) <;> (try (exfalso; first | contradiction | omega))) | fail)
    (refine At_ret Try.results26 rfl (fun w' hw => ?_))
    have he : l = m := by
      apply List.ext_getElem?
      intro j
      by_cases hj : j < l.length
      · exact hall.out j hj
      · rw [List.getElem?_eq_none (by omega), List.getElem?_eq_none (by omega)]
    rw [decide_eq_true he]
    exact ⟨rfl, hw.below0 rfl⟩
end Go.Proofs.Ytbhjljnbjomnhaa

namespace Go.Proofs.Ytbhjljnbjomnhaa
open Go.ChangeShapes Go.WideShapes Go.ChangeAt Go.RowKit Go.Deep

section
variable {H : Type} {enc : TypeId × Value → H} {P : Program}

/-- arguments read on as they read, where what was there is as it was -/
theorem trodAll_kept (hl : laidOutB P = true) {W W' : World} (hb : Below W.heap.size W W') {sp : Nat → Bool} :
    ∀ {ts : List TypeId} {vs : List Value} {ds : List (DataW H)} {p : List MemPlace}, (∀ t ∈ ts, P.readableRec t = true ∧ t < P.types.size) → (∀ x ∈ p, x.block < W.heap.size) → (∀ x ∈ p, sp x.block = true) →
      DataW.TrodAll enc P W 0 (fun _ => true) true ts vs ds p → DataW.TrodAll enc P W' 0 sp true ts vs ds p
  | [], _, _, _, _, _, _, h => by
    obtain ⟨rfl, rfl, rfl⟩ := trodAll_nil h
    exact trodAll_mk0
  | t :: ts, _, _, _, ht, hp, hs, h => by
    obtain ⟨v, vs, d, ds, a, b, rfl, rfl, rfl, h1, h2⟩ := trodAll_cons h
    obtain ⟨hr, hrow⟩ := ht t (List.mem_cons_self ..)
    refine ⟨a, b, WideElems.Trod_stays hl hr hrow h1 (fun x hx => hb.same (hp x (List.mem_append_left _ hx))) (fun x hx => hs x (List.mem_append_left _ hx)), ?_, rfl⟩
    exact trodAll_kept hl hb (fun t' h' => ht t' (List.mem_cons_of_mem _ h')) (fun x hx => hp x (List.mem_append_right _ hx)) (fun x hx => hs x (List.mem_append_right _ hx)) h2

/-- a law's row behind a walk that ends in 'true' -/
theorem law_post {f : Func} {s : ChangeSpec} {W W' : World} {args : Array Value} {tb : TypeId} {ds gs : List (DataW H)} {before : List MemPlace}
    (hl : laidOutB P = true) (hr : (f.params.toList.all fun t => P.readableRec t && decide (t < P.types.size)) = true) (hv : s.vars = []) (hrt : f.resultTypes = #[tb]) (htb : P.underlying tb = some .bool)
    (hW : DataW.Whole enc P f.params.toList s.vars false W args.toList ds gs before)
    (hs : gs = [] → s.fn H (ds ++ gs) = { results := [.lit (.bool true)], args := ds })
    (hb : Below W.heap.size W W') : s.post enc P f false true false false W args (.bool true) W' := by
  have hlt : ∀ p ∈ before, p.block < W.heap.size := fun p hp => hW.lt p hp
  have hW' := hW
  obtain ⟨p, q, hA, hV, rfl, hfz, hnd⟩ := hW
  rw [hv] at hV
  obtain ⟨rfl, rfl⟩ := trodVars_none hV
  simp only [List.append_nil] at hlt
  have hf := hs rfl
  have hfv : (s.fn H (ds ++ [])).vars = [] := by rw [hf]
  have hr' : ∀ t ∈ f.params.toList, P.readableRec t = true ∧ t < P.types.size := fun t ht => by
    have := List.all_eq_true.1 hr t ht
    simpa using this
  refine ⟨ds, [], p ++ [], [], p, [], hW', ?_, ?_, ?_, ?_, fun h => by cases h⟩
  · rw [hf, hrt]
    exact trodAll_mk1 (shut_bool htb _)
  · rw [hf]
    exact trodAll_kept hl hb hr' hlt (fun x hx => by simpa using hlt x hx) hA
  · rw [hv, hfv]; exact rfl
  · exact hb.frame _

/-- a slice of structs whose fields are all ints: each field of each element by its place -/
theorem open_int_rows {w : World} {base : Nat} {spare : Nat → Bool} {held : Bool} {t e ti : TypeId} {fs : Array Field} {fuel : Nat} {cs : List Value} {x : DataW H × List MemPlace}
    (ht : P.underlying t = some (.slice e)) (he : P.underlying e = some (.struct fs)) (hone : oneCellFields P fs = true) (hC : P.cellsOf e = fs.size) (hti : P.underlying ti = some (.int .i64)) (hfs : (fs.toList.all fun f => f.type == ti) = true)
    (h : DataW.trod enc P w base spare held fuel t cs = some x) :
    ∃ (A : Option Addr) (len cap : Nat) (Z : Nat → Nat → Int), cs = [.slice A len cap] ∧ len ≤ maxLen ∧ len ≤ cap ∧
      ∀ i, i < len → ∀ j, j < fs.size → (Lit.int .i64 (Z i j)).wf = true ∧ ∃ b o, A = some ⟨b, o, none⟩ ∧ b < w.heap.size ∧ w.cell? ⟨b, o + i * fs.size + j, none⟩ = some (.int .i64 (Z i j)) := by
  rcases open_slice ht h with ⟨rfl, rfl⟩ | ⟨a, len, cap, m, n, D, Pl, rfl, hb, hl, hm, hmm, hx, hi⟩
  · exact ⟨none, 0, 0, fun _ _ => 0, rfl, by omega, by omega, fun i hi => by omega⟩
  have hlm : len ≤ m := by rw [hmm]; split <;> omega
  have key : ∀ i, i < len → ∀ j, j < fs.size → ∃ z, (Lit.int .i64 z).wf = true ∧ w.cell? (a.add (i * fs.size + j)) = some (.int .i64 z) := by
    intro i hil j hj
    obtain ⟨cs', hc, htr⟩ := hi i (by omega)
    rw [hC] at hc
    obtain ⟨ys, n', _, _, hlen, _, hf⟩ := DataW.trod_struct he htr
    obtain ⟨_, _, hat⟩ := World.cells?_some hc
    obtain ⟨ho, hk⟩ := hone_of hone j fs[j] (by simp [hj])
    have hty : fs[j].type = ti := by
      have := List.all_eq_true.1 hfs fs[j] (by simp)
      simpa using this
    have h1 := hf j fs[j] (by simp [hj])
    rw [ho, hk] at h1
    have hl' : cs'.length = fs.size := by rw [hlen, hC]
    have hd : (cs'.drop j).take 1 = [cs'[j]'(by omega)] := by
      rw [List.drop_eq_getElem_cons (by omega)]
      rfl
    rw [hd, hty] at h1
    have hys : ys[j]? = some (ys[j]'(by omega)) := List.getElem?_eq_getElem (by omega)
    obtain ⟨z, hz1, _, hwf⟩ := DataW.trod_int hti (h1.trans hys)
    refine ⟨z, hwf, ?_⟩
    rw [← Go.Deep.add_add, hat j hj, List.getElem?_eq_getElem (by omega)]
    simpa using hz1
  have hfun : ∃ Z : Nat → Nat → Int, ∀ i, i < len → ∀ j, j < fs.size → (Lit.int .i64 (Z i j)).wf = true ∧ w.cell? (a.add (i * fs.size + j)) = some (.int .i64 (Z i j)) := by
    classical
    refine ⟨fun i j => if hh : i < len ∧ j < fs.size then Classical.choose (key i hh.1 j hh.2) else 0, fun i hi' j hj => ?_⟩
    simp only [dif_pos (show i < len ∧ j < fs.size from ⟨hi', hj⟩)]
    exact Classical.choose_spec (key i hi' j hj)
  obtain ⟨Z, hZ⟩ := hfun
  refine ⟨some a, len, cap, Z, rfl, by omega, hl, fun i hi' j hj => ⟨(hZ i hi' j hj).1, a.block, a.off, ?_, ?_, ?_⟩⟩
  · have := (hZ i hi' j hj).2
    have hsp : a.spot = none := by
      obtain ⟨ab, ao, spo⟩ := a
      cases spo with
      | none => rfl
      | some s =>
        have h0 := (hZ i hi' 0 (by omega)).2
        have h00 := (hZ 0 (by omega) 0 (by omega)).2
        simp [Addr.add, World.cell?] at h00
        split at h00 <;> simp_all
    cases a; simp_all
  · have := block_lt_of_cell (hZ i hi' j hj).2
    unfold Addr.add at this
    split at this <;> exact this
  · have h1 := (hZ i hi' j hj).2
    have h0 := (hZ 0 (by omega) 0 (by omega)).2
    rw [← h1]
    congr 1
    unfold Addr.add
    split
    · rename_i h2
      obtain ⟨ab, ao, spo⟩ := a
      cases spo with
      | none => simp; omega
      | some s => simp [Addr.add, World.cell?] at h0; split at h0 <;> simp_all
    · simp [Nat.add_assoc]
end

/-- the rows so opened read as a list of whatever is made of their fields -/
theorem rdE_of_rows {α : Type} {w : World} {A : Option Addr} {n m : Nat} {Z : Nat → Nat → Int} (mk : (Nat → Int) → α) (enc : α → List Value) (hm : 0 < m)
    (henc : ∀ z : Nat → Int, ∀ j v, (enc (mk z))[j]? = some v → j < m ∧ v = .int .i64 (z j))
    (hZ : ∀ i, i < n → ∀ j, j < m → (Lit.int .i64 (Z i j)).wf = true ∧ ∃ b o, A = some ⟨b, o, none⟩ ∧ b < w.heap.size ∧ w.cell? ⟨b, o + i * m + j, none⟩ = some (.int .i64 (Z i j))) :
    RdE enc m w A ((List.range n).map fun i => mk (Z i)) := by
  intro i x hx
  have hi : i < n := by
    have := (List.getElem?_eq_some_iff.1 hx).1
    simpa using this
  have hx' : mk (Z i) = x := by simpa [hi] using hx
  subst hx'
  obtain ⟨_, b, o, e1, e2, _⟩ := hZ i hi 0 hm
  refine ⟨b, o, e1, e2, fun j v hv => ?_⟩
  obtain ⟨hj, rfl⟩ := henc _ _ _ hv
  obtain ⟨_, b', o', f1, _, f3⟩ := hZ i hi j hj
  obtain ⟨rfl, rfl⟩ : b = b' ∧ o = o' := by rw [e1] at f1; simpa using f1
  exact f3

/-- a slice of ints as rows of one -/
theorem open_int_list {H : Type} {enc : TypeId × Value → H} {P : Program} {w : World} {base : Nat} {spare : Nat → Bool} {held : Bool} {t e : TypeId} {fuel : Nat} {cs : List Value} {x : DataW H × List MemPlace}
    (ht : P.underlying t = some (.slice e)) (he : P.underlying e = some (.int .i64)) (hc : P.cellsOf e = 1)
    (h : DataW.trod enc P w base spare held fuel t cs = some x) :
    ∃ (A : Option Addr) (len cap : Nat) (Z : Nat → Nat → Int), cs = [.slice A len cap] ∧ len ≤ maxLen ∧ len ≤ cap ∧
      ∀ i, i < len → ∀ j, j < 1 → (Lit.int .i64 (Z i j)).wf = true ∧ ∃ b o, A = some ⟨b, o, none⟩ ∧ b < w.heap.size ∧ w.cell? ⟨b, o + i * 1 + j, none⟩ = some (.int .i64 (Z i j)) := by
  rcases open_ints ht he hc h with ⟨rfl, rfl⟩ | ⟨a, len, cap, zs, rfl, hb, hl, hm, hzl, hx, hat, hwf⟩
  · exact ⟨none, 0, 0, fun _ _ => 0, rfl, by omega, by omega, fun i hi => by omega⟩
  have hlz : len ≤ zs.length := by rw [hzl]; split <;> omega
  refine ⟨some a, len, cap, fun i _ => zs.getD i 0, rfl, by omega, hl, fun i hi j hj => ⟨hwf _ (by show zs.getD i 0 ∈ zs; rw [List.getD_eq_getElem?_getD, List.getElem?_eq_getElem (by omega)]; exact List.getElem_mem _), a.block, a.off, ?_, ?_, ?_⟩⟩
  · have h0 := hat 0 (by omega)
    obtain ⟨ab, ao, spo⟩ := a
    cases spo with
    | none => rfl
    | some s => simp [Addr.add, World.cell?] at h0; split at h0 <;> simp_all
  · have := block_lt_of_cell (hat i (by omega))
    unfold Addr.add at this
    split at this <;> exact this
  · have h0 := hat 0 (by omega)
    rw [← hat i (by omega)]
    congr 1
    obtain ⟨ab, ao, spo⟩ := a
    cases spo with
    | none =>
      obtain rfl : j = 0 := by omega
      simp [Addr.add]
    | some s => simp [Addr.add, World.cell?] at h0; split at h0 <;> simp_all
/-- and read as the list -/
theorem rdE_of_list {w : World} {A : Option Addr} {n : Nat} {Z : Nat → Nat → Int}
    (hZ : ∀ i, i < n → ∀ j, j < 1 → (Lit.int .i64 (Z i j)).wf = true ∧ ∃ b o, A = some ⟨b, o, none⟩ ∧ b < w.heap.size ∧ w.cell? ⟨b, o + i * 1 + j, none⟩ = some (.int .i64 (Z i j))) :
    RdE (fun z : Int => [.int .i64 z]) 1 w A ((List.range n).map fun i => Z i 0) :=
  rdE_of_rows (fun z => z 0) _ (by decide) (fun z j v hv => by
    match j, hv with
    | 0, hv => exact ⟨by decide, by simpa using hv.symm⟩
    | j + 1, hv => simp at hv) hZ

theorem own : ownKnob Try.prog.godebug = none := by kernel_rfl
theorem laidOut : laidOutB Try.prog = true := by kernel_rfl
end Go.Proofs.Ytbhjljnbjomnhaa
