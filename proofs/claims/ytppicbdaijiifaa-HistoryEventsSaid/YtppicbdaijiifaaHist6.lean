/- Histories: two lists of calls, compared. -/
import Derived.Test.YtppicbdaijiifaaHist5
import Derived.Test.YtppicbdaijiifaaRel
set_option linter.unusedSimpArgs false
set_option linter.unusedVariables false
set_option linter.unusedSectionVars false
set_option linter.unnecessarySimpa false
namespace Go.Proofs.Ytppicbdaijiifaa
open Go.RowKit

def clEq (x1 x2 x3 x4 x5 x6 x7 y1 y2 y3 y4 y5 y6 y7 : Int) : Bool := decide ((⟨x1, x2, x3, x4, x5, x6, x7⟩ : Cl) = ⟨y1, y2, y3, y4, y5, y6, y7⟩)
set_option maxRecDepth 40000 in
theorem run_neq_cl (x1 x2 x3 x4 x5 x6 x7 y1 y2 y3 y4 y5 y6 y7 : Int) (w : World) :
    (binOp .neq 64 (.agg #[.int .i64 x1, .int .i64 x2, .int .i64 x3, .int .i64 x4, .int .i64 x5, .int .i64 x6, .int .i64 x7]) (.agg #[.int .i64 y1, .int .i64 y2, .int .i64 y3, .int .i64 y4, .int .i64 y5, .int .i64 y6, .int .i64 y7])).run Try.prog w = .ok (.bool (!clEq x1 x2 x3 x4 x5 x6 x7 y1 y2 y3 y4 y5 y6 y7)) w := by
  rw [run_neq_struct]
  go_simp
  unfold clEq
  repeat' split
  all_goals simp_all
theorem run_eqGuard_cl (op : BinOp) (x y : Operand) (xs ys : Array Value) (w : World) : (eqGuard op 64 x y (.agg xs) (.agg ys)).run Try.prog w = .ok () w :=
  run_eqGuard_agg w op _ x y xs ys Try.eqGuardType64
attribute [local go_sem ↓] run_neq_cl run_eqGuard_cl
theorem clEq_at (x y : Cl) : clEq x.who x.thing x.kind x.arg x.res x.from_ x.to y.who y.thing y.kind y.arg y.res y.from_ y.to = decide (x = y) := rfl
theorem RdCl.at_ {w wr : World} {A : Option Addr} {l : List Cl} (h : RdCl w A l) (hb : Below w.heap.size w wr) (k : Nat) (hk : k < l.length) :
    ∃ b o, A = some ⟨b, o, none⟩ ∧ b < w.heap.size ∧ b < wr.heap.size ∧ wr.cell? ⟨b, o + k * 7, none⟩ = some (.int .i64 l[k].who) ∧ wr.cell? ⟨b, o + k * 7 + 1, none⟩ = some (.int .i64 l[k].thing) ∧ wr.cell? ⟨b, o + k * 7 + 2, none⟩ = some (.int .i64 l[k].kind) ∧ wr.cell? ⟨b, o + k * 7 + 3, none⟩ = some (.int .i64 l[k].arg) ∧
      wr.cell? ⟨b, o + k * 7 + 4, none⟩ = some (.int .i64 l[k].res) ∧ wr.cell? ⟨b, o + k * 7 + 5, none⟩ = some (.int .i64 l[k].from_) ∧ wr.cell? ⟨b, o + k * 7 + 6, none⟩ = some (.int .i64 l[k].to) := by
  obtain ⟨b, o, h1, h2, h3, h4⟩ := RdE.at_ h hb k hk
  exact ⟨b, o, h1, h2, h3, h4 0 _ rfl, h4 1 _ rfl, h4 2 _ rfl, h4 3 _ rfl, h4 4 _ rfl, h4 5 _ rfl, h4 6 _ rfl⟩

set_option maxHeartbeats 2000000 in
theorem equalCl_any (A B : Option Addr) (c d : Nat) (l m : List Cl) (w : World) (hl : l.length ≤ 9223372036854775807) (hm : m.length ≤ 9223372036854775807) (hA : RdCl w A l) (hB : RdCl w B m) :
    Calls Try.prog 82 #[.slice A l.length c, .slice B m.length d] w fun e w' => e = .returned (.bool (decide (l = m))) ∧ Below w.heap.size w w' := by
  by_cases hlen : l.length = m.length
  · have hne : ((l.length : Int) != (m.length : Int)) = false := by simp; omega
    have Hlen := Lib.hid hlen
    have hle : l.length ≤ m.length := by omega
    clear hlen
    go_enter Try.func82, Try.ntmps82
    go_wp2
    go_loopw [13] (fun i wr => ∃ k : Nat, k ≤ l.length ∧ i = .int .i64 k ∧ Hid (∀ j, j < k → l[j]? = m[j]?) ∧ Below w.heap.size w wr) (fun i _ => l.length - (intOf i).toNat)
    case atStart => exact ⟨0, by omega, rfl, Lib.hid (by omega), Below.refl _ _⟩
    case round =>
      obtain ⟨k, hk, rfl, hall, hbel⟩ := hrel
      by_cases hlt : k < l.length
      · obtain ⟨b, o, rfl, hb0, hbs, c0, c1, c2, c3, c4, c5, c6⟩ := hA.at_ hbel k hlt
        obtain ⟨b2, o2, rfl, hb02, hbs2, d0, d1, d2, d3, d4, d5, d6⟩ := hB.at_ hbel k (by omega)
        have hk1 : (k : Int) < (l.length : Int) := by omega
        have hk2 : (k : Int) < (m.length : Int) := by omega
        by_cases he : l[k] = m[k]
        · have hb := clEq_at l[k] m[k]
          rw [decide_eq_true he] at hb
          have He := Lib.hid he
          clear he
          go_wp2
          go_quiet (fail)
          go_wp2
          go_roundw
          case rel => exact ⟨k + 1, by omega, by go_num, Lib.hid (fun j hj => by
            by_cases e : j = k
            · subst e; rw [List.getElem?_eq_getElem hlt, List.getElem?_eq_getElem (by omega), He.out]
            · exact hall.out j (by omega)), by (repeat (first | assumption | exact Below.refl _ _ | refine bel_alloc ?_ _ | refine Below.drew ?_ | refine below_drewN' ?_ _ | (refine bel_set ?_ (by first | (simp; done) | (simp; omega)) _) | (refine bel_row ?_ (by first | (simp; done) | (simp; omega)) _)))⟩
          case measure => simp [intOf]; omega
        · have hb := clEq_at l[k] m[k]
          rw [decide_eq_false he] at hb
          have He := Lib.hid he
          clear he
          go_wp2
          go_quiet (fail)
          go_wp2
          go_ret
          exact ⟨ret_bool (by
            symm
            simp only [decide_eq_false_iff_not]
            intro e
            subst e
            exact He.out rfl), by (repeat (first | assumption | exact Below.refl _ _ | refine bel_alloc ?_ _ | refine Below.drew ?_ | refine below_drewN' ?_ _ | (refine bel_set ?_ (by first | (simp; done) | (simp; omega)) _) | (refine bel_row ?_ (by first | (simp; done) | (simp; omega)) _)))⟩
      · obtain rfl : k = l.length := by omega
        go_wp2
        go_ret
        exact ⟨ret_bool (by
          symm
          simp only [decide_eq_true_eq]
          apply List.ext_getElem?
          intro j
          by_cases hj : j < l.length
          · exact hall.out j hj
          · rw [List.getElem?_eq_none (by omega), List.getElem?_eq_none (by have := Hlen.out; omega)]), hbel⟩
  · have hne : ((l.length : Int) != (m.length : Int)) = true := by simp; omega
    have H := Lib.hid (show decide (l = m) = false by simp; intro e; exact hlen (by rw [e]))
    clear hlen
    go_enter Try.func82, Try.ntmps82
    go_wp2
    go_ret
    exact ⟨ret_bool H.out.symm, Below.refl _ _⟩
end Go.Proofs.Ytppicbdaijiifaa
