/- The law SpansSay: whatever list of spans is handed in, the law returns true. No condition. -/
import Derived.Test.YtnbgcgpkpakicaaSpans
import Derived.Test.YtnbgcgpkpakicaaLaw
import Derived.Lib.QuietBelow
namespace Go.Proofs.Ytnbgcgpkpakicaa
open Go.RowKit
theorem run_eql_rel0 (n : Int) (f : Nat → Nat) (w : World) :
    (binOp .eql 31 (.agg (relCells n f)) (.agg #[.int .i64 0, .int .u16 0, .int .u16 0, .int .u16 0, .int .u16 0, .int .u16 0, .int .u16 0, .int .u16 0, .int .u16 0, .int .u16 0, .int .u16 0, .int .u16 0, .int .u16 0])).run Try.prog w = .ok (.bool (n == 0 && relEq f (fun _ => 0))) w :=
  run_eql_rel n 0 f (fun _ => 0) w
attribute [local go_sem ↓] run_eql_rel run_eql_rel0 run_eqGuard_rel exec_load_rel exec_store_rel
attribute [local go_sem] relCells_size relCells_ones

set_option maxRecDepth 100000 in
set_option maxHeartbeats 2000000 in
theorem spansSay_bad (A : Option Addr) (c : Nat) (l : List Span) (w : World) (hl : l.length ≤ 9223372036854775807) (hA : RdSpan w A l) (h0 : ¬ chk l = 0) :
    Calls Try.prog 4 #[.slice A l.length c] w fun e w' => e = .returned (.bool true) ∧ Below w.heap.size w w' := by
  have H0 := Lib.hid h0
  have hne : (chk l != 0) = true := by simp [h0]
  have hr := relEq_same (fun _ => 0) (fun _ => 0) (fun _ _ => rfl)
  clear h0
  go_enter Try.func4, Try.ntmps4
  go_wp2_with (first
    | (go_at_call 12; refine (Of_bad _ _ _ _ (by omega) hA H0.out).mono ?_; rintro e w1 ⟨rfl, hb1⟩)
    | (go_at_call 13; refine (meets_bad _ _ _ _ (by omega) (hA.below (by (repeat (first | assumption | exact Below.refl _ _ | refine bel_alloc ?_ _ | refine Below.drew ?_ | refine below_drewN' ?_ _ | (refine bel_set ?_ (by simp) _) | (refine bel_row ?_ (by simp) _))))) H0.out).mono ?_; rintro e w2 ⟨rfl, hb2⟩; have hB2 := bel_trans (bel_alloc hb1 _) hb2)
    | (go_at_call 14; refine (right_any _ _ _ _ (by omega) (hA.below hB2)).mono ?_; rintro e w3 ⟨rfl, hb3⟩; have hB3 := bel_trans hB2 hb3)
    | (go_at_call 15; refine (check_any _ _ _ _ (by omega) (hA.below hB3)).mono ?_; rintro e w4 ⟨rfl, hb4⟩; have hB4 := bel_trans hB3 hb4; have hz := ((((Blk.new w1 31 (relCells 0 (fun _ => 0))).carry hb2).carry hb3).carry hb4).rowOf)
)
  go_ret
  exact ⟨rfl, hB4⟩

set_option maxRecDepth 100000 in
set_option maxHeartbeats 4000000 in
theorem spansSay_ok (A : Option Addr) (c : Nat) (l : List Span) (w : World) (hl : l.length ≤ 9223372036854775807) (hA : RdSpan w A l) (h0 : chk l = 0) :
    Calls Try.prog 4 #[.slice A l.length c] w fun e w' => e = .returned (.bool true) ∧ Below w.heap.size w w' := by
  have h12 : l.length ≤ 12 := by
    refine Nat.le_of_not_lt fun h => ?_
    rw [chk_large h] at h0; omega
  have H0 := Lib.hid h0
  have hne : (chk l != 0) = false := by simp [h0]
  have hr := relEq_same (relOfTo l l.length) (relOfTo l l.length) (fun _ _ => rfl)
  clear h0
  go_enter Try.func4, Try.ntmps4
  go_wp2_with (first
    | (go_at_call 12; refine (Of_ok _ _ _ _ (by omega) hA H0.out).mono ?_; rintro e w1 ⟨rfl, hb1⟩)
    | (go_at_call 13; refine (meets_ok _ _ _ _ (by omega) (hA.below (by (repeat (first | assumption | exact Below.refl _ _ | refine bel_alloc ?_ _ | refine Below.drew ?_ | refine below_drewN' ?_ _ | (refine bel_set ?_ (by simp) _) | (refine bel_row ?_ (by simp) _))))) H0.out).mono ?_; rintro e w2 ⟨rfl, hb2⟩; have hB2 := bel_trans (bel_alloc hb1 _) hb2)
    | (go_at_call 14; refine (right_any _ _ _ _ (by omega) (hA.below hB2)).mono ?_; rintro e w3 ⟨rfl, hb3⟩; have hB3 := bel_trans hB2 hb3)
    | (go_at_call 15; refine (check_any _ _ _ _ (by omega) (hA.below hB3)).mono ?_; rintro e w4 ⟨rfl, hb4⟩; have hB4 := bel_trans hB3 hb4; have hz := (((Blk.new w1 31 (relCells l.length (relOfTo l l.length))).carry hb2).carry hb3).carry hb4)
)
  go_loopw [9, 10, 58] (fun a m i wr => ∃ k : Nat, k ≤ l.length ∧ i = .int .i64 k ∧ a = .int .i64 ((l.take k).foldl (meetStep l) (0, 0)).1 ∧ m = .int .i64 ((l.take k).foldl (meetStep l) (0, 0)).2 ∧ Below w.heap.size w wr ∧ Blk wr w1.heap.size 31 (relCells l.length (relOfTo l l.length))) (fun _ _ i _ => l.length - (intOf i).toNat)
  case atStart => exact ⟨0, by omega, rfl, rfl, rfl, hB4, hz⟩
  case round =>
    obtain ⟨k, hk, rfl, rfl, rfl, hbel, hz2⟩ := hrel
    clear hz
    by_cases hlt : k < l.length
    · obtain ⟨b, o, rfl, hb0, hbs, c1, c2⟩ := hA.at_ hbel k hlt
      have hf := foldl_take_succ (meetStep l) (0, 0) l k hlt
      have Hf := Lib.hid hf; clear hf
      generalize (l.take k).foldl (meetStep l) (0, 0) = st at *
      go_wp2_with (fail)
      obtain ⟨wo, rfl⟩ : ∃ wo : World, wo = wr := ⟨_, rfl⟩
      go_loopw [13, 64] (fun n i wr => ∃ m : Nat, m ≤ l.length ∧ i = .int .i64 m ∧ n = .int .i64 (meetN (l.take m) l[k].frm) ∧ Below w.heap.size w wr ∧ Blk wr wo.heap.size 38 #[.int .i64 l[k].frm, .int .i64 l[k].til] ∧ Blk wr w1.heap.size 31 (relCells l.length (relOfTo l l.length))) (fun _ i _ => l.length - (intOf i).toNat)
      case atStart => exact ⟨0, by omega, rfl, by simp [meetN], by (repeat (first | assumption | exact Below.refl _ _ | refine bel_alloc ?_ _ | refine Below.drew ?_ | refine below_drewN' ?_ _ | (refine bel_set ?_ (by simp) _) | (refine bel_row ?_ (by simp) _))), Blk.new _ _ _, hz2.alloc _⟩
      case round =>
        obtain ⟨m, hm, rfl, rfl, hbel2, ha2, hz3⟩ := hrel
        have a0 := ha2.cell 0
        have a1 := ha2.cell 1
        have a5 := ha2.lt
        simp only [List.getElem?_toArray, List.getElem?_cons_succ, List.getElem?_cons_zero] at a0 a1
        by_cases hlt2 : m < l.length
        · obtain ⟨b', o', e', hb0', hbs', d1, d2⟩ := hA.at_ hbel2 m hlt2
          obtain ⟨rfl, rfl⟩ : b = b' ∧ o = o' := by simpa using e'
          have hs := meetN_succ l l[k].frm m hlt2
          have Hs := Lib.hid hs; clear hs e'
          have hle := meetN_le l l[k].frm m
          generalize meetN (l.take m) l[k].frm = cnt at *
          go_wp2_with (go_at_call 16; refine (between_any _ _ _ _).mono ?_; rintro e w' ⟨rfl, rfl⟩)
          all_goals
            go_roundw
            case rel => exact ⟨m + 1, by omega, by go_num, by rw [Hs.out]; split <;> first | go_num | (exfalso; omega), by (repeat (first | assumption | exact Below.refl _ _ | refine bel_alloc ?_ _ | refine Below.drew ?_ | refine below_drewN' ?_ _ | (refine bel_set ?_ (by simp) _) | (refine bel_row ?_ (by simp) _))), ha2.alloc _, hz3.alloc _⟩
            case measure => simp [intOf]; omega
        · obtain rfl : m = l.length := by omega
          go_wp2_with (fail)
          all_goals
            go_roundw
            case rel => exact ⟨k + 1, by omega, by go_num, by rw [Hf.out, meetStep]; split <;> first | rfl | (simp; omega) | (exfalso; omega), by rw [Hf.out, meetStep]; split <;> first | rfl | (simp; omega) | (exfalso; omega), by (repeat (first | assumption | exact Below.refl _ _ | refine bel_alloc ?_ _ | refine Below.drew ?_ | refine below_drewN' ?_ _ | (refine bel_set ?_ (by simp) _) | (refine bel_row ?_ (by simp) _))), hz3⟩
            case measure => simp [intOf]; omega
    · obtain rfl : k = l.length := by omega
      have hrow := hz2.rowOf
      have hlt' := hz2.lt
      have hm : ((l.take l.length).foldl (meetStep l) (0, 0)) = meets l := by rw [List.take_length]; rfl
      rw [hm]
      clear hm
      go_wp2_with (fail)
      refine qb_region (by kernel_rfl) (by kernel_rfl) ?_
      repeat (first | (refine qb_skip rfl ?_; (refine qb_norm (fun K hK => ?_); go_simp; refine hK _ ?_; clear hK K)) | (refine qb_val rfl ?_; apply Exists.intro; refine ⟨?_, ?_⟩; (focus (intro w' hw'; have hcl := fun g o (h : g < _) => cell_below hw' (g := g) h o; have hrw := fun g (h : g < _) => rowOf_below hw' (g := g) h; go_simp; first | done | rfl)); (refine qb_norm (fun K hK => ?_); go_simp; refine hK _ ?_; clear hK K)) | (refine qb_none rfl ?_ ?_; (focus (intro w' hw'; have hcl := fun g o (h : g < _) => cell_below hw' (g := g) h o; have hrw := fun g (h : g < _) => rowOf_below hw' (g := g) h; go_simp; first | done | rfl)); (refine qb_norm (fun K hK => ?_); go_simp; refine hK _ ?_; clear hK K)))
      (refine qb_call rfl ?_; apply Exists.intro; apply Exists.intro; apply Exists.intro; refine ⟨?_, ?_, ?_⟩; (focus (intro w'; go_simp; first | done | (exact ⟨rfl, rfl⟩) | rfl)); (focus (intro w' hw'; exact spanRel_any _ _ _ _ h12 ((hA.below hbel).below hw'))); (refine qb_norm (fun K hK => ?_); go_simp; refine hK _ ?_; clear hK K))
      repeat (first | (refine qb_skip rfl ?_; (refine qb_norm (fun K hK => ?_); go_simp; refine hK _ ?_; clear hK K)) | (refine qb_val rfl ?_; apply Exists.intro; refine ⟨?_, ?_⟩; (focus (intro w' hw'; have hcl := fun g o (h : g < _) => cell_below hw' (g := g) h o; have hrw := fun g (h : g < _) => rowOf_below hw' (g := g) h; go_simp; first | done | rfl)); (refine qb_norm (fun K hK => ?_); go_simp; refine hK _ ?_; clear hK K)) | (refine qb_none rfl ?_ ?_; (focus (intro w' hw'; have hcl := fun g o (h : g < _) => cell_below hw' (g := g) h o; have hrw := fun g (h : g < _) => rowOf_below hw' (g := g) h; go_simp; first | done | rfl)); (refine qb_norm (fun K hK => ?_); go_simp; refine hK _ ?_; clear hK K)))
      (refine qb_nil ?_; intro w5 hb5)
      go_wp2_with (fail)
      go_ret
      exact ⟨rfl, bel_trans hbel hb5⟩

theorem own : ownKnob Try.prog.godebug = none := by kernel_rfl
theorem laidOut : laidOutB Try.prog = true := by kernel_rfl

open Go.ChangeShapes Go.WideShapes Go.ChangeAt Go.Deep in
set_option maxRecDepth 100000 in
theorem spansSay_contract (H : Type) (enc : TypeId × Value → H) (W : World) (base : Nat) (args : Array Value) (ds gs : List (DataW H)) (before : List MemPlace)
    (hval : ∀ (j : Nat) t v, Try.f4.params[j]? = some t → args[j]? = some v → Value.okWide Try.prog W .any base t v)
    (hW : DataW.Whole enc Try.prog Try.f4.params.toList Rows.spansSaySpec.vars false W args.toList ds gs before) :
    Calls Try.prog 4 args W fun e W' => ∃ v, e = .returned v ∧ Rows.spansSaySpec.post enc Try.prog Try.f4 false true false false W args v W' := by
  have hW' := hW
  obtain ⟨p, q, hA, -, -, -, -⟩ := hW
  rw [Try.params4] at hA hval
  obtain ⟨v0, vs0, d0, ds0, p0, q0, hargs, rfl, rfl, h0, r0⟩ := trodAll_cons hA
  obtain ⟨rfl, rfl, rfl⟩ := trodAll_nil r0
  obtain rfl : args = #[v0] := by cases args; simp_all
  obtain ⟨A, n, c, rfl⟩ := okWide_slice Try.underlying27 (hval 0 _ _ rfl rfl)
  obtain ⟨fuel, hf⟩ := h0
  obtain ⟨A', len, cap, Z, hcs, hlen, hZ⟩ := open_int_rows Try.underlying27 Try.underlying38 (by kernel_rfl) (by kernel_rfl) Try.underlying3 (by kernel_rfl) hf
  have hcs' : A = A' ∧ n = len ∧ c = cap := by simpa [Value.cells] using hcs
  obtain ⟨rfl, rfl, rfl⟩ := hcs'
  have hl : ((List.range n).map fun i => (⟨Z i 0, Z i 1⟩ : Span)).length = n := by simp
  have hR : RdSpan W A ((List.range n).map fun i => (⟨Z i 0, Z i 1⟩ : Span)) := by
    intro i s hs
    have hi : i < n := by
      have := (List.getElem?_eq_some_iff.1 hs).1
      simpa using this
    have hs' : (⟨Z i 0, Z i 1⟩ : Span) = s := by simpa [hi] using hs
    subst hs'
    obtain ⟨_, b, o, e1, e2, e3⟩ := hZ i hi 0 (by decide)
    obtain ⟨_, b', o', f1, _, f3⟩ := hZ i hi 1 (by decide)
    obtain ⟨rfl, rfl⟩ : b = b' ∧ o = o' := by rw [e1] at f1; simpa using f1
    exact ⟨b, o, e1, e2, e3, f3⟩
  unfold maxLen at hlen
  have hcall : Calls Try.prog 4 #[.slice A n c] W fun e w' => e = .returned (.bool true) ∧ Below W.heap.size W w' := by
    generalize ((List.range n).map fun i => (⟨Z i 0, Z i 1⟩ : Span)) = l at *
    subst hl
    by_cases h0 : chk l = 0
    · exact spansSay_ok A c l W (by omega) hR h0
    · exact spansSay_bad A c l W (by omega) hR h0
  refine hcall.mono fun e W' ⟨he, hb⟩ => ⟨_, he, ?_⟩
  exact law_post laidOut (by kernel_rfl) rfl rfl Try.underlying4 hW' (fun _ => by subst_vars; rfl) hb

open Go.ChangeShapes Go.WideShapes Go.ChangeAt Go.Deep in
set_option maxRecDepth 100000 in
theorem spansSay_lifted (os : Os) (started : os.Started) (H : Type) (enc : TypeId × Value → H) :
    ReturnsInHanded {} Try.checked os 4 .any (Rows.spansSaySpec.pre6 enc Try.prog Try.f4 Rows.spansSayRow.domain false) (Rows.spansSaySpec.post enc Try.prog Try.f4 false true false false) := by
  refine returnsInHanded_of_change (C := Try.checked) own started (by kernel_rfl) Try.func4
    (ChangeSpec.witness6 (enc := enc) (C := Try.checked) false ⟨#[], #[.slice none 0 0], []⟩ 8 (by kernel_rfl) (by kernel_rfl) (by kernel_rfl) (by kernel_rfl)) ?_
  intro W base args ds gs before hval hW _ _
  exact spansSay_contract H enc W base args ds gs before hval hW

theorem spansSay_holds : Rows.SpansSaySaid :=
  OpenClaim.holds_of_wide 4 Try.f4 rfl rfl rfl rfl rfl rfl rfl ⟨rfl, rfl, rfl, rfl, rfl⟩ rfl rfl rfl rfl rfl (by kernel_rfl) Try.func4 (by kernel_rfl)
    (of_decide_eq_true (by kernel_rfl)) (by unfold Func.isWrapper; first | (rw [if_pos (by decide +kernel)]; kernel_rfl) | (rw [if_neg (by decide +kernel)]; exact ⟨rfl, rfl⟩))
    (fun os started H enc _ => spansSay_lifted os started H enc)
#print axioms spansSay_holds
end Go.Proofs.Ytnbgcgpkpakicaa
