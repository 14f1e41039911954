/- TextSays: whatever is handed in, Print and Read answer what the document says. Conditions: the package-level variables listed in the row hold what the program's text lays (tied by the card). -/
import Derived.Test.YthecmfhoaneejaaDoorG15
import Derived.Test.YthecmfhoaneejaaDoorG08
import Derived.Test.YthecmfhoaneejaaDoorTie
import Derived.Test.YthecmfhoaneejaaDoorCards
import Derived.Deep.DeepHandedRow
import Derived.LaidMore
import Derived.Lay
import Derived.SevenTiedAt
import Derived.JoinedCond
set_option linter.unusedSimpArgs false
set_option linter.unusedVariables false
set_option linter.unusedSectionVars false
set_option linter.unnecessarySimpa false
namespace Go.Proofs.YthecmfhoaneejaaDoor
open Go.ChangeShapes Go.WideShapes Go.ChangeAt Go.RowKit Go.Deep Go.Lib
open Go.ChangeMaps (open_string)

set_option maxRecDepth 100000 in
theorem textSays_contract (H : Type) (enc : TypeId × Value → H) (W : World) (base : Nat) (args : Array Value) (ds gs : List (DataW H)) (before : List MemPlace)
    (hval : ∀ (j : Nat) t v, Tryd.f3.params[j]? = some t → args[j]? = some v → Value.okWide Tryd.prog W .any base t v)
    (hW : DataW.Whole enc Tryd.prog Tryd.f3.params.toList Rows.textSaysSpec.vars false W args.toList ds gs before) (hTx : TxW W) :
    Calls Tryd.prog 3 args W fun e W' => ∃ v, e = .returned v ∧ Rows.textSaysSpec.post enc Tryd.prog Tryd.f3 false true false false W args v W' := by
  have hW' := hW
  obtain ⟨p, q, hA, -, -, -, -⟩ := hW
  rw [Tryd.params3] at hA hval
  obtain ⟨v1, vs1, d1, ds1, p1, q1, hargs1, rfl, rfl, h1, r1⟩ := trodAll_cons hA
  obtain ⟨v2, vs2, d2, ds2, p2, q2, hargs2, rfl, rfl, h2, r2⟩ := trodAll_cons r1
  obtain ⟨v3, vs3, d3, ds3, p3, q3, hargs3, rfl, rfl, h3, r3⟩ := trodAll_cons r2
  obtain ⟨rfl, rfl, rfl⟩ := trodAll_nil r3
  obtain rfl : args = #[v1, v2, v3] := by cases args; simp_all
  obtain ⟨A, n, c, rfl⟩ := okWide_slice Tryd.underlying22 (hval 0 _ _ rfl rfl)
  obtain ⟨B, m, d, rfl⟩ := okWide_slice Tryd.underlying23 (hval 1 _ _ rfl rfl)
  obtain ⟨s, rfl, rfl, rfl, hs⟩ := open_string Tryd.underlying9 (hval 2 _ _ rfl rfl) h3
  obtain ⟨fuel1, hf1⟩ := h1
  obtain ⟨fuel2, hf2⟩ := h2
  obtain ⟨A', len1, cap1, Z1, hcs1, hlen1, hlc1, hZ1⟩ := open_int_list Tryd.underlying22 Tryd.underlying3 (by kernel_rfl) hf1
  have hcs1' : A = A' ∧ n = len1 ∧ c = cap1 := by simpa [Value.cells] using hcs1
  obtain ⟨rfl, rfl, rfl⟩ := hcs1'
  obtain ⟨B', len2, cap2, Z2, hcs2, hlen2, hlc2, hZ2⟩ := open_int_rows Tryd.underlying23 Tryd.underlying36 (by kernel_rfl) (by kernel_rfl) Tryd.underlying3 (by kernel_rfl) hf2
  have hcs2' : B = B' ∧ m = len2 ∧ d = cap2 := by simpa [Value.cells] using hcs2
  obtain ⟨rfl, rfl, rfl⟩ := hcs2'
  have hl1 : ((List.range n).map fun i => Z1 i 0).length = n := by simp
  have hl2 : ((List.range m).map fun i => (⟨Z2 i 0, Z2 i 1, Z2 i 2, Z2 i 3⟩ : Ev)).length = m := by simp
  have hR1 : RdInt W A ((List.range n).map fun i => Z1 i 0) := rdE_of_list hZ1
  have hR2 : RdEv W B ((List.range m).map fun i => (⟨Z2 i 0, Z2 i 1, Z2 i 2, Z2 i 3⟩ : Ev)) :=
    rdE_of_rows (fun z => (⟨z 0, z 1, z 2, z 3⟩ : Ev)) Ev.enc (by decide) (fun z j v hv => by
      match j, hv with
      | 0, hv => exact ⟨by decide, by simpa [Ev.enc] using hv.symm⟩
      | 1, hv => exact ⟨by decide, by simpa [Ev.enc] using hv.symm⟩
      | 2, hv => exact ⟨by decide, by simpa [Ev.enc] using hv.symm⟩
      | 3, hv => exact ⟨by decide, by simpa [Ev.enc] using hv.symm⟩
      | j + 4, hv => simp [Ev.enc] at hv) hZ2
  unfold maxLen at hlen1 hlen2 hs
  have hsl : s.data.toList.length = s.size := by rw [Array.length_toList]; rfl
  have hcall : Calls Tryd.prog 3 #[.slice A n c, .slice B m d, .string s] W fun e W' => e = .returned (.bool true) ∧ Below W.heap.size W W' := by
    rw [show Value.string s = bsv s.data.toList by unfold bsv; rw [ba_eta]]
    generalize ((List.range n).map fun i => Z1 i 0) = ts at *
    generalize ((List.range m).map fun i => (⟨Z2 i 0, Z2 i 1, Z2 i 2, Z2 i 3⟩ : Ev)) = l at *
    subst hl1 hl2
    exact textSays_any A B c d ts l s.data.toList W (by omega) (by omega) (by omega) hR1 hR2 hTx
  refine hcall.mono fun e W' ⟨he, hb⟩ => ⟨_, he, ?_⟩
  exact law_post laidOut (by kernel_rfl) rfl rfl Tryd.underlying4 hW' (fun _ => by subst_vars; rfl) hb
abbrev laidL : List (String × DataW Unit) := Rows.textSaysRow.laid
set_option maxRecDepth 100000 in
theorem textSays_witness (os : Os) (H : Type) (enc : TypeId × Value → H) :
    ∃ (w : World) (tape : Tape) (i : Input), w.os = os ∧ (w.forCall tape i).Shaped Tryd.prog ∧ i.vars = [] ∧ Input.okWide Tryd.prog (w.forCall tape i) .any w.heap.size 3 i ∧
      (OpenSpec.ofChange Rows.textSaysSpec).preRow enc Tryd.prog Tryd.f3 Rows.textSaysRow.domain false laidL (w.forCall tape i).memory i.args ∧ ({} : Assume).holds Tryd.prog (lone (Frame.enter Tryd.prog 3 i.args .normal) [] (w.forCall tape i)) :=
  ⟨World.laidAll Tryd.prog os laidL, fun _ _ => 0, ⟨#[], #[.slice none 0 0, .slice none 0 0, .string ⟨#[]⟩], []⟩, World.laidAll_os _ _ _, World.shaped_of_ZipB (by kernel_rfl) (by kernel_rfl),
    rfl, (Input.okWide_of_okWideB (by kernel_rfl)).2,
    OpenSpec.preRow_of_B rfl 8 (by kernel_rfl) (by kernel_rfl) (by rw [MakeChecks.laidMetH_plain _ _ _ (by kernel_rfl)]; exact laidMet_laidAll _ (by kernel_rfl) (by kernel_rfl)), by
    simp only [Assume.holds]
    exact ⟨by simp, by simp, fun _ => Modest.zero, by simp, by simp⟩⟩
set_option maxRecDepth 100000 in
theorem textSays_lifted (os : Os) (started : os.Started) (H : Type) (enc : TypeId × Value → H) (F : Stop.Interp) :
    ReturnsInHanded {} Tryd.checked os 3 .any ((OpenSpec.ofChange Rows.textSaysSpec).preRow enc Tryd.prog Tryd.f3 Rows.textSaysRow.domain false laidL) (((OpenSpec.ofChange Rows.textSaysSpec).at F).post enc Tryd.prog Tryd.f3 false true false false) := by
  refine returnsInHanded_of_row (C := Tryd.checked) (s := OpenSpec.ofChange Rows.textSaysSpec) own started (by kernel_rfl) Tryd.func3 (textSays_witness os H enc) ?_
  intro W base args ds gs before hval hW _ _ _ hL hsh _
  rw [MakeChecks.laidMetH_plain _ _ _ (by kernel_rfl)] at hL
  have hTx : TxW W := txW_of hsh hL.tail.tail hL.tail.tail.tail.tail hL.tail.tail.tail.tail.tail hL.tail.tail.tail.tail.tail.tail.tail
  exact textSays_contract H enc W base args ds gs before hval hW hTx
theorem textSays_row : Rows.TextSaysSaid :=
  OpenClaim.holds_of_cond 3 Tryd.f3 rfl rfl rfl rfl rfl rfl rfl ⟨rfl, rfl, rfl, rfl, rfl⟩ rfl rfl rfl rfl rfl (by kernel_rfl) Tryd.func3 (by kernel_rfl)
    (of_decide_eq_true (by kernel_rfl)) (by unfold Func.isWrapper; first | (rw [if_pos (by decide +kernel)]; kernel_rfl) | (rw [if_neg (by decide +kernel)]; exact ⟨rfl, rfl⟩))
    (fun os started H enc _ F => by rw [OpenClaim.pre_eq_preRow]; exact textSays_lifted os started H enc F)
theorem textSays_holds : Rows.TextSaysCardSaid :=
  Claim7.holds_tied_plain_at .later [] [.data, .data, .data, .data, .sentinel, .sentinel, .listed, .data, .pinned] true (true, "492ca1bb671ff2d310402beecf68d7d30a6384ee3861c992e4f02732de12914b") true
    textSays_row (fun _ h => by cases h) (by kernel_rfl) (fun _ h => by cases h) textSays_row_tie rfl ⟨rfl, rfl⟩ (by kernel_rfl) rfl
    (fun f fn hf hfn => by
      obtain rfl : f = 3 := Option.some.inj ((show Tryd.prog.funcNamed "alibi/aliblaw.TextSays" = some 3 by kernel_rfl).symm.trans hf) |>.symm
      obtain rfl : fn = Tryd.f3 := (Option.some.inj (Tryd.func3.symm.trans hfn)).symm
      exact ⟨by kernel_rfl, fun j t ht => by
        rw [Tryd.params3] at ht
        have hm : t ∈ [22, 23, 9] := by simpa using Array.mem_of_getElem? ht
        have hall : ([22, 23, 9].all fun u => !Tryd.prog.wantsStandIn u) = true := by kernel_rfl
        exact (show Tryd.prog.wantsStandIn t = false by simpa using List.all_eq_true.1 hall t hm)⟩)
    (by kernel_rfl)
#print axioms textSays_holds
end Go.Proofs.YthecmfhoaneejaaDoor
