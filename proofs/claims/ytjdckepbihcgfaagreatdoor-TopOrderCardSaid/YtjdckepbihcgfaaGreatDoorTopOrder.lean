/- The law TopOrder: where all were answered the order that is found is one of those in which all who are ahead stand ahead: of these there is at least one. Conditions: the package-level variables listed in the row hold what the program's text lays (tied by the card). -/
import Derived.Test.YtjdckepbihcgfaaGreatDoorG26
import Derived.Test.YtjdckepbihcgfaaGreatDoorG25
import Derived.Test.YtjdckepbihcgfaaGreatDoorG17
import Derived.Test.YtjdckepbihcgfaaGreatDoorTie
import Derived.Test.YtjdckepbihcgfaaGreatDoorCards
import Derived.Deep.DeepHandedRow
import Derived.LaidMore
import Derived.Lay
import Derived.SevenTiedAt
import Derived.JoinedCond
set_option linter.unusedSimpArgs false
set_option linter.unusedVariables false
set_option linter.unusedSectionVars false
set_option linter.unnecessarySimpa false
namespace Go.Proofs.YtjdckepbihcgfaaGreatDoor
open Go.ChangeShapes Go.WideShapes Go.ChangeAt Go.RowKit Go.Deep Go.Lib

set_option maxRecDepth 100000 in
theorem topOrder_contract (H : Type) (enc : TypeId × Value → H) (W : World) (base : Nat) (args : Array Value) (ds gs : List (DataW H)) (before : List MemPlace)
    (hval : ∀ (j : Nat) t v, Tryz.f5.params[j]? = some t → args[j]? = some v → Value.okWide Tryz.prog W .any base t v)
    (hW : DataW.Whole enc Tryz.prog Tryz.f5.params.toList Rows.topOrderSpec.vars false W args.toList ds gs before) (hTx : TxW W) :
    Calls Tryz.prog 5 args W fun e W' => ∃ v, e = .returned v ∧ Rows.topOrderSpec.post enc Tryz.prog Tryz.f5 false true false false W args v W' := by
  have hW' := hW
  obtain ⟨p, q, hA, -, -, -, -⟩ := hW
  rw [Tryz.params5] at hA hval
  obtain ⟨v1, vs1, d1, ds1, p1, q1, hargs1, rfl, rfl, h1, r1⟩ := trodAll_cons hA
  obtain ⟨v2, vs2, d2, ds2, p2, q2, hargs2, rfl, rfl, h2, r2⟩ := trodAll_cons r1
  obtain ⟨rfl, rfl, rfl⟩ := trodAll_nil r2
  obtain rfl : args = #[v1, v2] := by cases args; simp_all
  obtain ⟨A, n, c, rfl⟩ := okWide_slice Tryz.underlying24 (hval 0 _ _ rfl rfl)
  obtain ⟨B, m, d, rfl⟩ := okWide_slice Tryz.underlying25 (hval 1 _ _ rfl rfl)
  obtain ⟨fuel1, hf1⟩ := h1
  obtain ⟨fuel2, hf2⟩ := h2
  obtain ⟨A', len1, cap1, Z1, hcs1, hlen1, hlc1, hZ1⟩ := open_int_list Tryz.underlying24 Tryz.underlying3 (by kernel_rfl) hf1
  have hcs1' : A = A' ∧ n = len1 ∧ c = cap1 := by simpa [Value.cells] using hcs1
  obtain ⟨rfl, rfl, rfl⟩ := hcs1'
  obtain ⟨B', len2, cap2, Z2, hcs2, hlen2, hlc2, hZ2⟩ := open_int_rows Tryz.underlying25 Tryz.underlying95 (by kernel_rfl) (by kernel_rfl) Tryz.underlying3 (by kernel_rfl) hf2
  have hcs2' : B = B' ∧ m = len2 ∧ d = cap2 := by simpa [Value.cells] using hcs2
  obtain ⟨rfl, rfl, rfl⟩ := hcs2'
  have hl1 : ((List.range n).map fun i => Z1 i 0).length = n := by simp
  have hl2 : ((List.range m).map fun i => (⟨Z2 i 0, Z2 i 1, Z2 i 2, Z2 i 3⟩ : Ev)).length = m := by simp
  have hR1 : RdInt W A ((List.range n).map fun i => Z1 i 0) := rdE_of_list hZ1
  have hR2 : RdEv W B ((List.range m).map fun i => (⟨Z2 i 0, Z2 i 1, Z2 i 2, Z2 i 3⟩ : Ev)) :=
    rdE_of_rows (fun z => (⟨z 0, z 1, z 2, z 3⟩ : Ev)) Ev.enc (by decide) (fun z j v hv => by
      match j, hv with
      | 0, hv => exact ⟨by decide, by simpa [Ev.enc] using hv.symm⟩
      | 1, hv => exact ⟨by decide, by simpa [Ev.enc] using hv.symm⟩
      | 2, hv => exact ⟨by decide, by simpa [Ev.enc] using hv.symm⟩
      | 3, hv => exact ⟨by decide, by simpa [Ev.enc] using hv.symm⟩
      | j + 4, hv => simp [Ev.enc] at hv) hZ2
  unfold maxLen at hlen1 hlen2
  have hcall : Calls Tryz.prog 5 #[.slice A n c, .slice B m d] W fun e W' => e = .returned (.bool true) ∧ Below W.heap.size W W' := by
    generalize ((List.range n).map fun i => Z1 i 0) = ts at *
    generalize ((List.range m).map fun i => (⟨Z2 i 0, Z2 i 1, Z2 i 2, Z2 i 3⟩ : Ev)) = l at *
    subst hl1 hl2
    exact topOrder_any A B c d ts l W (by omega) (by omega) hR1 hR2 hTx
  refine hcall.mono fun e W' ⟨he, hb⟩ => ⟨_, he, ?_⟩
  exact law_post laidOut (by kernel_rfl) rfl rfl Tryz.underlying4 hW' (fun _ => by subst_vars; rfl) hb
abbrev laidTopOrder : List (String × DataW Unit) := Rows.topOrderRow.laid
set_option maxRecDepth 100000 in
theorem topOrder_witness (os : Os) (H : Type) (enc : TypeId × Value → H) :
    ∃ (w : World) (tape : Tape) (i : Input), w.os = os ∧ (w.forCall tape i).Shaped Tryz.prog ∧ i.vars = [] ∧ Input.okWide Tryz.prog (w.forCall tape i) .any w.heap.size 5 i ∧
      (OpenSpec.ofChange Rows.topOrderSpec).preRow enc Tryz.prog Tryz.f5 Rows.topOrderRow.domain false laidTopOrder (w.forCall tape i).memory i.args ∧ ({} : Assume).holds Tryz.prog (lone (Frame.enter Tryz.prog 5 i.args .normal) [] (w.forCall tape i)) :=
  ⟨World.laidAll Tryz.prog os laidTopOrder, fun _ _ => 0, ⟨#[], #[.slice none 0 0, .slice none 0 0], []⟩, World.laidAll_os _ _ _, World.shaped_of_ZipB (by kernel_rfl) (by kernel_rfl),
    rfl, (Input.okWide_of_okWideB (by kernel_rfl)).2,
    OpenSpec.preRow_of_B rfl 8 (by kernel_rfl) (by kernel_rfl) (by rw [MakeChecks.laidMetH_plain _ _ _ (by kernel_rfl)]; exact laidMet_laidAll _ (by kernel_rfl) (by kernel_rfl)), by
    simp only [Assume.holds]
    exact ⟨by simp, by simp, fun _ => Modest.zero, by simp, by simp⟩⟩
set_option maxRecDepth 100000 in
theorem topOrder_lifted (os : Os) (started : os.Started) (H : Type) (enc : TypeId × Value → H) (F : Stop.Interp) :
    ReturnsInHanded {} Tryz.checked os 5 .any ((OpenSpec.ofChange Rows.topOrderSpec).preRow enc Tryz.prog Tryz.f5 Rows.topOrderRow.domain false laidTopOrder) (((OpenSpec.ofChange Rows.topOrderSpec).at F).post enc Tryz.prog Tryz.f5 false true false false) := by
  refine returnsInHanded_of_row (C := Tryz.checked) (s := OpenSpec.ofChange Rows.topOrderSpec) own started (by kernel_rfl) Tryz.func5 (topOrder_witness os H enc) ?_
  intro W base args ds gs before hval hW _ _ _ hL hsh _
  rw [MakeChecks.laidMetH_plain _ _ _ (by kernel_rfl)] at hL
  have hTx : TxW W := txW_of hsh hL.tail.tail hL.tail.tail.tail.tail hL.tail.tail.tail.tail.tail
  exact topOrder_contract H enc W base args ds gs before hval hW hTx
theorem andB {a b : Bool} (h1 : a = true) (h2 : b = true) : (a && b) = true := by rw [h1, h2]; rfl
theorem topOrder_f1 : (Rows.topOrderRow.inPlace == Tryz.prog.inPlace 5) = true := by kernel_rfl
theorem topOrder_f2 : (Rows.topOrderRow.unfollowed == Tryz.prog.unfollowed 5) = true := by kernel_rfl
theorem topOrder_f3 : (Rows.topOrderRow.recurses == Tryz.prog.recurses 5) = true := by kernel_rfl
theorem topOrder_f4 : (Rows.topOrderRow.named == Tryz.prog.varsNamed 5) = true := by kernel_rfl
theorem topOrder_facts : joinedFacts Tryz.prog 5 Tryz.f5 (OpenSpec.ofChange Rows.topOrderSpec).bare Rows.topOrderRow = true := by
  unfold joinedFacts
  repeat' (with_reducible apply andB)
  all_goals first | with_reducible exact topOrder_f1 | with_reducible exact topOrder_f2 | with_reducible exact topOrder_f3 | with_reducible exact topOrder_f4 | kernel_rfl
theorem topOrder_row : Rows.TopOrderSaid :=
  OpenClaim.holds_of_cond 5 Tryz.f5 rfl rfl rfl rfl rfl rfl rfl ⟨rfl, rfl, rfl, rfl, rfl⟩ rfl rfl rfl rfl rfl (by kernel_rfl) Tryz.func5 topOrder_facts
    (of_decide_eq_true (by kernel_rfl)) (by unfold Func.isWrapper; first | (rw [if_pos (by decide +kernel)]; kernel_rfl) | (rw [if_neg (by decide +kernel)]; exact ⟨rfl, rfl⟩))
    (fun os started H enc _ F => by rw [OpenClaim.pre_eq_preRow]; exact topOrder_lifted os started H enc F)
theorem topOrder_holds : Rows.TopOrderCardSaid :=
  Claim7.holds_tied_plain_at .later [] [.data, .data, .data, .data, .sentinel, .sentinel, .pinned] true (true, "9e3fd4e1c3051d11546bef9628f93769cecb64a5a37d22f673b27d4b37f9cc43") true
    topOrder_row (fun _ h => by cases h) (by kernel_rfl) (fun _ h => by cases h) topOrder_row_tie rfl ⟨rfl, rfl⟩ (by kernel_rfl) rfl
    (fun f fn hf hfn => by
      obtain rfl : f = 5 := Option.some.inj ((show Tryz.prog.funcNamed "alibi/alibtop.TopOrder" = some 5 by kernel_rfl).symm.trans hf) |>.symm
      obtain rfl : fn = Tryz.f5 := (Option.some.inj (Tryz.func5.symm.trans hfn)).symm
      exact ⟨by kernel_rfl, fun j t ht => by
        rw [Tryz.params5] at ht
        have hm : t ∈ [24, 25] := by simpa using Array.mem_of_getElem? ht
        have hall : ([24, 25].all fun u => !Tryz.prog.wantsStandIn u) = true := by kernel_rfl
        exact (show Tryz.prog.wantsStandIn t = false by simpa using List.all_eq_true.1 hall t hm)⟩)
    (by kernel_rfl)
#print axioms topOrder_holds
end Go.Proofs.YtjdckepbihcgfaaGreatDoor
