/- The law LocalJoins: whatever is handed in, the law returns true. No condition. -/
import Derived.Test.YtbhjljnbjomnhaaG16
import Derived.Test.YtbhjljnbjomnhaaG13
set_option linter.unusedSimpArgs false
set_option linter.unusedVariables false
set_option linter.unusedSectionVars false
set_option linter.unnecessarySimpa false
namespace Go.Proofs.Ytbhjljnbjomnhaa
open Go.RowKit

open Go.ChangeShapes Go.WideShapes Go.ChangeAt Go.Deep in
set_option maxRecDepth 100000 in
theorem localJoins_contract (H : Type) (enc : TypeId × Value → H) (W : World) (base : Nat) (args : Array Value) (ds gs : List (DataW H)) (before : List MemPlace)
    (hval : ∀ (j : Nat) t v, Try.f3.params[j]? = some t → args[j]? = some v → Value.okWide Try.prog W .any base t v)
    (hW : DataW.Whole enc Try.prog Try.f3.params.toList Rows.localJoinsSpec.vars false W args.toList ds gs before) :
    Calls Try.prog 3 args W fun e W' => ∃ v, e = .returned v ∧ Rows.localJoinsSpec.post enc Try.prog Try.f3 false true false false W args v W' := by
  have hW' := hW
  obtain ⟨p, q, hA, -, -, -, -⟩ := hW
  rw [Try.params3] at hA hval
  obtain ⟨v0, vs0, d0, ds0, p0, q0, hargs0, rfl, rfl, h0, r0⟩ := trodAll_cons hA
  obtain ⟨v1, vs1, d1, ds1, p1, q1, hargs1, rfl, rfl, h1, r1⟩ := trodAll_cons r0
  obtain ⟨v2, vs2, d2, ds2, p2, q2, hargs2, rfl, rfl, h2, r2⟩ := trodAll_cons r1
  obtain ⟨rfl, rfl, rfl⟩ := trodAll_nil r2
  obtain rfl : args = #[v0, v1, v2] := by cases args; simp_all
  obtain ⟨A, n, c, rfl⟩ := okWide_slice Try.underlying22 (hval 0 _ _ rfl rfl)
  obtain ⟨B, m, d, rfl⟩ := okWide_slice Try.underlying23 (hval 1 _ _ rfl rfl)
  obtain ⟨D, k, e, rfl⟩ := okWide_slice Try.underlying24 (hval 2 _ _ rfl rfl)
  obtain ⟨fuel, hf⟩ := h0
  obtain ⟨fuel1, hf1⟩ := h1
  obtain ⟨fuel2, hf2⟩ := h2
  obtain ⟨A', len, cap, Z, hcs, hlen, hlc, hZ⟩ := open_int_list Try.underlying22 Try.underlying3 (by kernel_rfl) hf
  have hcs' : A = A' ∧ n = len ∧ c = cap := by simpa [Value.cells] using hcs
  obtain ⟨rfl, rfl, rfl⟩ := hcs'
  obtain ⟨B', len1, cap1, Z1, hcs1, hlen1, hlc1, hZ1⟩ := open_int_rows Try.underlying23 Try.underlying86 (by kernel_rfl) (by kernel_rfl) Try.underlying3 (by kernel_rfl) hf1
  have hcs1' : B = B' ∧ m = len1 ∧ d = cap1 := by simpa [Value.cells] using hcs1
  obtain ⟨rfl, rfl, rfl⟩ := hcs1'
  obtain ⟨D', len2, cap2, hd, Z2, hcs2, hlen2, hlc2, hZ2⟩ := open_row_rows Try.underlying24 (by kernel_rfl) Try.underlying25 Try.underlying39 (by kernel_rfl) (by kernel_rfl) Try.underlying3 (by kernel_rfl) hf2
  have hcs2' : D = D' ∧ k = len2 ∧ e = cap2 := by simpa [Value.cells] using hcs2
  obtain ⟨rfl, rfl, rfl⟩ := hcs2'
  have hl : ((List.range n).map fun i => Z i 0).length = n := by simp
  have hl1 : ((List.range m).map fun i => (⟨Z1 i 0, Z1 i 1, Z1 i 2, Z1 i 3⟩ : Ev)).length = m := by simp
  have hl2 : ((List.range k).map hd).length = k := by simp
  have hR : RdInt W A ((List.range n).map fun i => Z i 0) := rdE_of_list hZ
  have hR1 : RdEv W B ((List.range m).map fun i => (⟨Z1 i 0, Z1 i 1, Z1 i 2, Z1 i 3⟩ : Ev)) :=
    rdE_of_rows (fun z => (⟨z 0, z 1, z 2, z 3⟩ : Ev)) Ev.enc (by decide) (fun z j v hv => by
      match j, hv with
      | 0, hv => exact ⟨by decide, by simpa [Ev.enc] using hv.symm⟩
      | 1, hv => exact ⟨by decide, by simpa [Ev.enc] using hv.symm⟩
      | 2, hv => exact ⟨by decide, by simpa [Ev.enc] using hv.symm⟩
      | 3, hv => exact ⟨by decide, by simpa [Ev.enc] using hv.symm⟩
      | j + 4, hv => simp [Ev.enc] at hv) hZ1
  have hR2 : RdRows Stp.enc 2 W D ((List.range k).map hd) ((List.range k).map fun i => (List.range (hd i).n).map fun q => (⟨Z2 i q 0, Z2 i q 1⟩ : Stp)) :=
    rdRows_of (fun z => (⟨z 0, z 1⟩ : Stp)) Stp.enc (by decide) (fun z j v hv => by
      match j, hv with
      | 0, hv => exact ⟨by decide, by simpa [Stp.enc] using hv.symm⟩
      | 1, hv => exact ⟨by decide, by simpa [Stp.enc] using hv.symm⟩
      | j + 2, hv => simp [Stp.enc] at hv) hZ2
  unfold maxLen at hlen hlen1 hlen2
  have hcall : Calls Try.prog 3 #[.slice A n c, .slice B m d, .slice D k e] W fun e W' => e = .returned (.bool true) ∧ Below W.heap.size W W' := by
    have hwl : ((List.range k).map fun i => (List.range (hd i).n).map fun q => (⟨Z2 i q 0, Z2 i q 1⟩ : Stp)).length = k := by simp
    generalize ((List.range n).map fun i => Z i 0) = ts at *
    generalize ((List.range m).map fun i => (⟨Z1 i 0, Z1 i 1, Z1 i 2, Z1 i 3⟩ : Ev)) = l at *
    generalize ((List.range k).map fun i => (List.range (hd i).n).map fun q => (⟨Z2 i q 0, Z2 i q 1⟩ : Stp)) = R at *
    generalize ((List.range k).map hd) = hs at *
    subst hl hl1 hl2
    exact localJoins_any A B D c d e ts l hs R W (by omega) (by omega) (by omega) hR hR1 hR2
  refine hcall.mono fun e W' ⟨he, hb⟩ => ⟨_, he, ?_⟩
  exact law_post laidOut (by kernel_rfl) rfl rfl Try.underlying4 hW' (fun _ => by subst_vars; rfl) hb

open Go.ChangeShapes Go.WideShapes Go.ChangeAt Go.Deep in
set_option maxRecDepth 100000 in
theorem localJoins_lifted (os : Os) (started : os.Started) (H : Type) (enc : TypeId × Value → H) :
    ReturnsInHanded {} Try.checked os 3 .any (Rows.localJoinsSpec.pre6 enc Try.prog Try.f3 Rows.localJoinsRow.domain false) (Rows.localJoinsSpec.post enc Try.prog Try.f3 false true false false) := by
  refine returnsInHanded_of_change (C := Try.checked) own started (by kernel_rfl) Try.func3
    (ChangeSpec.witness6 (enc := enc) (C := Try.checked) false ⟨#[], #[.slice none 0 0, .slice none 0 0, .slice none 0 0], []⟩ 8 (by kernel_rfl) (by kernel_rfl) (by kernel_rfl) (by kernel_rfl)) ?_
  intro W base args ds gs before hval hW _ _
  exact localJoins_contract H enc W base args ds gs before hval hW
theorem localJoins_holds : Rows.LocalJoinsSaid :=
  OpenClaim.holds_of_wide 3 Try.f3 rfl rfl rfl rfl rfl rfl rfl ⟨rfl, rfl, rfl, rfl, rfl⟩ rfl rfl rfl rfl rfl (by kernel_rfl) Try.func3 (by kernel_rfl)
    (of_decide_eq_true (by kernel_rfl)) (by unfold Func.isWrapper; first | (rw [if_pos (by decide +kernel)]; kernel_rfl) | (rw [if_neg (by decide +kernel)]; exact ⟨rfl, rfl⟩))
    (fun os started H enc _ => localJoins_lifted os started H enc)
#print axioms localJoins_holds
end Go.Proofs.Ytbhjljnbjomnhaa
