/- The law MutexSays: whatever is handed in, the law returns true. No condition. -/
import Derived.Test.YtiimjppceobkfaaG10
import Derived.Test.YtiimjppceobkfaaG12
import Derived.Test.YtiimjppceobkfaaG15
set_option linter.unusedSimpArgs false
set_option linter.unusedVariables false
set_option linter.unusedSectionVars false
set_option linter.unnecessarySimpa false
namespace Go.Proofs.Ytiimjppceobkfaa
open Go.RowKit

section
variable (algo turns : Int) (B : Option Addr) (l : List Int) (d : Nat) (w : World) (hl : l.length ≤ 9223372036854775807) (hB : RdInt w B l)
include hl hB
set_option maxRecDepth 100000 in
set_option maxHeartbeats 4000000 in
theorem mutexPlay_bad (n e : Int) (hv : gatesE algo n turns l = e) (hn : ¬ e = 0) : Calls Try.prog 15 #[.int .i64 algo, .int .i64 n, .int .i64 turns, .slice B l.length d] w fun x w' => x = .returned (.tuple #[.slice none 0 0, .int .i64 0, .int .i64 e]) ∧ Below w.heap.size w w' := by
  have hchk := fun w h => mutexCheck_any algo n turns B l d w hl h
  rw [hv] at hchk
  clear hv
  refine calls_T (S := []) [] Try.func15 rfl Try.ntmps15 (by simp) (Mem.nil _) ?_
  repeat' (first | (refine GO ?_) | (refine GOE ?_; (first | (rintro _ _ ⟨rfl, rfl⟩) | (rintro _ _ ⟨g, rfl, rfl⟩) | (rintro _ _ ⟨A', c', rfl, rfl⟩))) | ((refine GO2 ?_ ?_) <;> intro h <;> (try (repeat (first | with_reducible (replace h := of_decide_eq_true h) | with_reducible (replace h := of_decide_eq_false h) | with_reducible (replace h := bnt h) | with_reducible (replace h := bnf h) | with_reducible (replace h := Int.not_lt.mp h) | with_reducible (replace h := Int.not_le.mp h) | with_reducible (replace h := band_dec h) | with_reducible (replace h := band_decF h) | with_reducible (replace h := bor_dec h) | with_reducible (replace h := bor_decF h)))) <;> (try (exfalso; first | contradiction | omega))) | ((with_reducible (first | apply TD_e2z | apply TD_e3z | apply TL_e | apply TD_e2 | apply TD_e3)); ((with_reducible apply ES_callV (f := 71)); exact rfl; (intro w hw; exact hchk w (hw.rd rfl hB)); exact rfl); (first | exact rfl | exact ⟨rfl, rfl, rfl⟩); (rintro _ _ ⟨rfl, rfl⟩); (try refine ⟨SUB, ?_⟩)) | fail)
  (refine At_ret Try.results15 rfl (fun w' hw => ?_))
  exact ⟨rfl, hw.below0 rfl⟩
set_option maxRecDepth 100000 in
set_option maxHeartbeats 4000000 in
theorem mutexSays_any (n : Int) : Calls Try.prog 3 #[.int .i64 algo, .int .i64 n, .int .i64 turns, .slice B l.length d] w fun e w' => e = .returned (.bool true) ∧ Below w.heap.size w w' := by
  have hV := fun w h => gatesRight_any algo n turns B l d w hl h
  by_cases hv : gatesE algo n turns l = 0
  · have hi := gates_inv hv
    obtain ⟨hh, hl6, hin⟩ := hi
    have hg : 1 ≤ algo ∧ algo ≤ 4 ∧ 1 ≤ n ∧ n ≤ 4 ∧ (algo = 1 → n = 2) ∧ 0 ≤ turns ∧ turns ≤ 5 := by unfold headG at hh; omega
    obtain ⟨g1, g2, g3, g4, g5, g6, g7⟩ := hg
    obtain ⟨q, rfl⟩ := Int.eq_ofNat_of_zero_le (show 0 ≤ n by omega)
    have hP := fun w h => mutexPlay_any algo turns q B l d w hl h hv
    have hS := fun w h => gates_any algo turns q B l d w hl h hv
    have hbo := both_run (algo := algo) (turns := turns) (l := l) (show q ≤ 4 by omega) (by omega) g6 hin l.length (Nat.le_refl _)
    rw [hbo.gates, hbo.most] at hP
    have hlen : (runR algo turns q l l.length).out.length ≤ 600 := Nat.le_trans hbo.gatesK hl6
    rw [hv] at hV
    clear hbo hv hh
    generalize (runR algo turns q l l.length).out = L at *
    generalize (runR algo turns q l l.length).most = mo at *
    have heq := fun A B c d w' h1 h2 => equalGtq_any A B c d L L w' (by omega) (by omega) h1 h2
    rw [decide_eq_true rfl] at heq
    refine calls_T (S := []) [] Try.func3 rfl Try.ntmps3 (by simp) (Mem.nil _) ?_
    repeat' (first | (refine GO ?_) | (refine GOE ?_; (first | (rintro _ _ ⟨rfl, rfl⟩) | (rintro _ _ ⟨g, rfl, rfl⟩) | (rintro _ _ ⟨A', c', rfl, rfl⟩))) | ((refine GO2 ?_ ?_) <;> intro h <;> (try (repeat (first | with_reducible (replace h := of_decide_eq_true h) | with_reducible (replace h := of_decide_eq_false h) | with_reducible (replace h := bnt h) | with_reducible (replace h := bnf h) | with_reducible (replace h := Int.not_lt.mp h) | with_reducible (replace h := Int.not_le.mp h) | with_reducible (replace h := band_dec h) | with_reducible (replace h := band_decF h) | with_reducible (replace h := bor_dec h) | with_reducible (replace h := bor_decF h)))) <;> (try (exfalso; first | contradiction | omega))) | ((with_reducible (first | apply TD_e2z | apply TD_e3z | apply TL_e | apply TD_e2 | apply TD_e3)); ((with_reducible apply ES_callOwn (f := 15)); exact rfl; (intro w hw; exact hP w (hw.rd rfl hB)); exact rfl); (first | exact rfl | exact ⟨rfl, rfl, rfl⟩); (rintro _ _ ⟨A1, c1, rfl, rfl⟩); (try refine ⟨SUB, ?_⟩)) | ((with_reducible (first | apply TD_e2z | apply TD_e3z | apply TL_e | apply TD_e2 | apply TD_e3)); ((with_reducible apply ES_callV (f := 16)); exact rfl; (intro w hw; exact hV w (hw.rd rfl hB)); exact rfl); (first | exact rfl | exact ⟨rfl, rfl, rfl⟩); (rintro _ _ ⟨rfl, rfl⟩); (try refine ⟨SUB, ?_⟩)) | ((with_reducible (first | apply TD_e2z | apply TD_e3z | apply TL_e | apply TD_e2 | apply TD_e3)); ((with_reducible apply ES_callOwn (f := 17)); exact rfl; (intro w hw; exact hS w (hw.rd rfl hB)); exact rfl); (first | exact rfl | exact ⟨rfl, rfl, rfl⟩); (rintro _ _ ⟨A2, c2, rfl, rfl⟩); (try refine ⟨SUB, ?_⟩)) | ((with_reducible (first | apply TD_e2z | apply TD_e3z | apply TL_e | apply TD_e2 | apply TD_e3)); ((with_reducible apply ES_callV (f := 18)); exact rfl; (intro w hw; exact heq _ _ _ _ w (hw.ownRd (et := 32) (c := c1) (by first | ((repeat (first | with_reducible exact List.mem_cons_self | with_reducible apply List.mem_cons_of_mem)); done) | (repeat (first | exact List.Mem.head _ | apply List.Mem.tail))) (fun _ => rfl)) (hw.ownRd (et := 32) (c := c2) (by first | ((repeat (first | with_reducible exact List.mem_cons_self | with_reducible apply List.mem_cons_of_mem)); done) | (repeat (first | exact List.Mem.head _ | apply List.Mem.tail))) (fun _ => rfl))); exact rfl); (first | exact rfl | exact ⟨rfl, rfl, rfl⟩); (rintro _ _ ⟨rfl, rfl⟩); (try refine ⟨SUB, ?_⟩)) | fail)
    all_goals
      (refine At_ret Try.results3 rfl (fun w' hw => ?_))
      exact ⟨by simp [resVal], hw.below0 rfl⟩
  · obtain ⟨e, he⟩ : ∃ e, gatesE algo n turns l = e := ⟨_, rfl⟩
    have hP := fun w h => mutexPlay_bad algo turns B l d w hl h n e he (by rw [← he]; exact hv)
    rw [he] at hv hV
    clear he
    refine calls_T (S := []) [] Try.func3 rfl Try.ntmps3 (by simp) (Mem.nil _) ?_
    repeat' (first | (refine GO ?_) | (refine GOE ?_; (first | (rintro _ _ ⟨rfl, rfl⟩) | (rintro _ _ ⟨g, rfl, rfl⟩) | (rintro _ _ ⟨A', c', rfl, rfl⟩))) | ((refine GO2 ?_ ?_) <;> intro h <;> (try (repeat (first | with_reducible (replace h := of_decide_eq_true h) | with_reducible (replace h := of_decide_eq_false h) | with_reducible (replace h := bnt h) | with_reducible (replace h := bnf h) | with_reducible (replace h := Int.not_lt.mp h) | with_reducible (replace h := Int.not_le.mp h) | with_reducible (replace h := band_dec h) | with_reducible (replace h := band_decF h) | with_reducible (replace h := bor_dec h) | with_reducible (replace h := bor_decF h)))) <;> (try (exfalso; first | contradiction | omega))) | ((with_reducible (first | apply TD_e2z | apply TD_e3z | apply TL_e | apply TD_e2 | apply TD_e3)); ((with_reducible apply ES_callV (f := 15)); exact rfl; (intro w hw; exact hP w (hw.rd rfl hB)); exact rfl); (first | exact rfl | exact ⟨rfl, rfl, rfl⟩); (rintro _ _ ⟨rfl, rfl⟩); (try refine ⟨SUB, ?_⟩)) | ((with_reducible (first | apply TD_e2z | apply TD_e3z | apply TL_e | apply TD_e2 | apply TD_e3)); ((with_reducible apply ES_callV (f := 16)); exact rfl; (intro w hw; exact hV w (hw.rd rfl hB)); exact rfl); (first | exact rfl | exact ⟨rfl, rfl, rfl⟩); (rintro _ _ ⟨rfl, rfl⟩); (try refine ⟨SUB, ?_⟩)) | fail)
    all_goals
      (refine At_ret Try.results3 rfl (fun w' hw => ?_))
      exact ⟨by simp [resVal], hw.below0 rfl⟩
end

open Go.ChangeShapes Go.WideShapes Go.ChangeAt Go.Deep in
set_option maxRecDepth 100000 in
theorem mutexSays_contract (H : Type) (enc : TypeId × Value → H) (W : World) (base : Nat) (args : Array Value) (ds gs : List (DataW H)) (before : List MemPlace)
    (hval : ∀ (j : Nat) t v, Try.f3.params[j]? = some t → args[j]? = some v → Value.okWide Try.prog W .any base t v)
    (hW : DataW.Whole enc Try.prog Try.f3.params.toList Rows.mutexSaysSpec.vars false W args.toList ds gs before) :
    Calls Try.prog 3 args W fun e W' => ∃ v, e = .returned v ∧ Rows.mutexSaysSpec.post enc Try.prog Try.f3 false true false false W args v W' := by
  have hW' := hW
  obtain ⟨p, q, hA, -, -, -, -⟩ := hW
  rw [Try.params3] at hA hval
  obtain ⟨v0, vs0, d0, ds0, p0, q0, hargs0, rfl, rfl, h0, r0⟩ := trodAll_cons hA
  obtain ⟨v1, vs1, d1, ds1, p1, q1, hargs1, rfl, rfl, h1, r1⟩ := trodAll_cons r0
  obtain ⟨v2, vs2, d2, ds2, p2, q2, hargs2, rfl, rfl, h2, r2⟩ := trodAll_cons r1
  obtain ⟨v3, vs3, d3, ds3, p3, q3, hargs3, rfl, rfl, h3, r3⟩ := trodAll_cons r2
  obtain ⟨rfl, rfl, rfl⟩ := trodAll_nil r3
  obtain rfl : args = #[v0, v1, v2, v3] := by cases args; simp_all
  obtain ⟨t, rfl, -, -, -⟩ := open_int Try.underlying3 (hval 0 _ _ rfl rfl) h0
  obtain ⟨n, rfl, -, -, -⟩ := open_int Try.underlying3 (hval 1 _ _ rfl rfl) h1
  obtain ⟨tu, rfl, -, -, -⟩ := open_int Try.underlying3 (hval 2 _ _ rfl rfl) h2
  obtain ⟨B, m, d, rfl⟩ := okWide_slice Try.underlying22 (hval 3 _ _ rfl rfl)
  obtain ⟨fuel1, hf1⟩ := h3
  obtain ⟨B', len1, cap1, Z1, hcs1, hlen1, hlc1, hZ1⟩ := open_int_list Try.underlying22 Try.underlying3 (by kernel_rfl) hf1
  have hcs1' : B = B' ∧ m = len1 ∧ d = cap1 := by simpa [Value.cells] using hcs1
  obtain ⟨rfl, rfl, rfl⟩ := hcs1'
  have hl1 : ((List.range m).map fun i => Z1 i 0).length = m := by simp
  have hR1 : RdInt W B ((List.range m).map fun i => Z1 i 0) := rdE_of_list hZ1
  unfold maxLen at hlen1
  have hcall : Calls Try.prog 3 #[.int .i64 t, .int .i64 n, .int .i64 tu, .slice B m d] W fun e W' => e = .returned (.bool true) ∧ Below W.heap.size W W' := by
    generalize ((List.range m).map fun i => Z1 i 0) = l at *
    subst hl1
    exact mutexSays_any t tu B l d W (by omega) hR1 n
  refine hcall.mono fun e W' ⟨he, hb⟩ => ⟨_, he, ?_⟩
  exact law_post laidOut (by kernel_rfl) rfl rfl Try.underlying4 hW' (fun _ => by subst_vars; rfl) hb

open Go.ChangeShapes Go.WideShapes Go.ChangeAt Go.Deep in
set_option maxRecDepth 100000 in
theorem mutexSays_lifted (os : Os) (started : os.Started) (H : Type) (enc : TypeId × Value → H) :
    ReturnsInHanded {} Try.checked os 3 .any (Rows.mutexSaysSpec.pre6 enc Try.prog Try.f3 Rows.mutexSaysRow.domain false) (Rows.mutexSaysSpec.post enc Try.prog Try.f3 false true false false) := by
  refine returnsInHanded_of_change (C := Try.checked) own started (by kernel_rfl) Try.func3
    (ChangeSpec.witness6 (enc := enc) (C := Try.checked) false ⟨#[], #[.int .i64 0, .int .i64 0, .int .i64 0, .slice none 0 0], []⟩ 8 (by kernel_rfl) (by kernel_rfl) (by kernel_rfl) (by kernel_rfl)) ?_
  intro W base args ds gs before hval hW _ _
  exact mutexSays_contract H enc W base args ds gs before hval hW
theorem mutexSays_holds : Rows.MutexSaysSaid :=
  OpenClaim.holds_of_wide 3 Try.f3 rfl rfl rfl rfl rfl rfl rfl ⟨rfl, rfl, rfl, rfl, rfl⟩ rfl rfl rfl rfl rfl (by kernel_rfl) Try.func3 (by kernel_rfl)
    (of_decide_eq_true (by kernel_rfl)) (by unfold Func.isWrapper; first | (rw [if_pos (by decide +kernel)]; kernel_rfl) | (rw [if_neg (by decide +kernel)]; exact ⟨rfl, rfl⟩))
    (fun os started H enc _ => mutexSays_lifted os started H enc)
#print axioms mutexSays_holds
end Go.Proofs.Ytiimjppceobkfaa
