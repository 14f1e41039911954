/- VerdictSays: whatever is handed in, Run answers what the document says. Conditions: the package-level variables listed in the row hold what the program's text lays (tied by the card). -/
import Derived.Test.YtjdckepbihcgfaaGreatDoorG39
import Derived.Test.YtjdckepbihcgfaaGreatDoorG42
import Derived.Test.YtjdckepbihcgfaaGreatDoorG43
import Derived.Test.YtjdckepbihcgfaaGreatDoorG35
import Derived.Test.YtjdckepbihcgfaaGreatDoorTie
import Derived.Test.YtjdckepbihcgfaaGreatDoorCards
import Derived.Deep.DeepHandedRow
import Derived.LaidMore
import Derived.Lay
import Derived.SevenTiedAt
import Derived.JoinedCond
set_option linter.unusedSimpArgs false
set_option linter.unusedVariables false
set_option linter.unusedSectionVars false
set_option linter.unnecessarySimpa false
namespace Go.Proofs.YtjdckepbihcgfaaGreatDoor
open Go.ChangeShapes Go.WideShapes Go.ChangeAt Go.RowKit Go.Deep Go.Lib
open Go.ChangeMaps (open_string)
theorem Q0VerdictSays {p R : Prop} (r : R) (h : Rest R → p := by intro r; (first | with_reducible (first | apply zcE | apply za9 | apply zba | apply zbd | apply zbe) | ((with_reducible (first | apply zaN | apply zaO)); exact rfl; exact rfl; (with_reducible exact rfl))); (first | ((with_reducible apply zcX); exact rfl; exact rfl) | exact QS.auto); exact rfl; exact r.out) : p := h ⟨r⟩

set_option maxRecDepth 100000 in
theorem verdictSays_any (s : Bs) (w : World) (hs : s.length ≤ 9223372036854775807) (hT : TxD w) : Calls Tryz.prog 3 #[bsv s] w fun e w' => e = .returned (.bool true) ∧ Below w.heap.size w w' := by
  have hr := fun w h => run_any s w hs h
  have ht := fun w h => told_any s w hs h
  generalize verdB s = V at *
  refine zaj (S := []) [] Tryz.func3 rfl Tryz.ntmps3 Zj (Mem.nil _) ?_
  repeat' (first | refine Q0VerdictSays ?_ | refine Zga ?_ | (refine Zgb ?_; intro g) | (refine Zg ?_ ?_ <;> (intro h; try exact Zx)) | ((with_reducible (first | apply zaa | apply TD_e3z | apply zan | apply zaf | apply zae)); ((with_reducible apply zad (f := 7)); exact rfl; (intro w hw; exact hr w (hT.carry (hw.below0 rfl)).toTxW); exact rfl); exact Zh; (rintro _ _ ⟨rfl, rfl⟩); (try refine ⟨SUB, ?_⟩)) | ((with_reducible (first | apply zaa | apply TD_e3z | apply zan | apply zaf | apply zae)); ((with_reducible apply zad (f := 8)); exact rfl; (intro w hw; exact ht w (hT.carry (hw.below0 rfl))); exact rfl); exact Zh; (rintro _ _ ⟨rfl, rfl⟩); (try refine ⟨SUB, ?_⟩)) | fail)
  all_goals ((refine zah Tryz.results3 rfl (fun w' hw => ?_)); exact ⟨by simp [za0], hw.below0 rfl⟩)
set_option maxRecDepth 100000 in
theorem verdictSays_contract (H : Type) (enc : TypeId × Value → H) (W : World) (base : Nat) (args : Array Value) (ds gs : List (DataW H)) (before : List MemPlace)
    (hval : ∀ (j : Nat) t v, Tryz.f3.params[j]? = some t → args[j]? = some v → Value.okWide Tryz.prog W .any base t v)
    (hW : DataW.Whole enc Tryz.prog Tryz.f3.params.toList Rows.verdictSaysSpec.vars false W args.toList ds gs before) (hTx : TxD W) :
    Calls Tryz.prog 3 args W fun e W' => ∃ v, e = .returned v ∧ Rows.verdictSaysSpec.post enc Tryz.prog Tryz.f3 false true false false W args v W' := by
  have hW' := hW
  obtain ⟨p, q, hA, -, -, -, -⟩ := hW
  rw [Tryz.params3] at hA hval
  obtain ⟨v1, vs1, d1, ds1, p1, q1, hargs1, rfl, rfl, h1, r1⟩ := trodAll_cons hA
  obtain ⟨rfl, rfl, rfl⟩ := trodAll_nil r1
  obtain rfl : args = #[v1] := by cases args; simp_all
  obtain ⟨s, rfl, rfl, rfl, hs⟩ := open_string Tryz.underlying9 (hval 0 _ _ rfl rfl) h1
  unfold maxLen at hs
  have hsl : s.data.toList.length = s.size := by rw [Array.length_toList]; rfl
  have hcall : Calls Tryz.prog 3 #[.string s] W fun e W' => e = .returned (.bool true) ∧ Below W.heap.size W W' := by
    rw [show Value.string s = bsv s.data.toList by unfold bsv; rw [ba_eta]]
    exact verdictSays_any s.data.toList W Zo hTx
  refine hcall.mono fun e W' ⟨he, hb⟩ => ⟨_, he, ?_⟩
  exact law_post laidOut (by kernel_rfl) rfl rfl Tryz.underlying4 hW' (fun _ => by subst_vars; rfl) hb
abbrev laidV : List (String × DataW Unit) := Rows.verdictSaysRow.laid
set_option maxRecDepth 100000 in
theorem verdictSays_witness (os : Os) (H : Type) (enc : TypeId × Value → H) :
    ∃ (w : World) (tape : Tape) (i : Input), w.os = os ∧ (w.forCall tape i).Shaped Tryz.prog ∧ i.vars = [] ∧ Input.okWide Tryz.prog (w.forCall tape i) .any w.heap.size 3 i ∧
      (OpenSpec.ofChange Rows.verdictSaysSpec).preRow enc Tryz.prog Tryz.f3 Rows.verdictSaysRow.domain false laidV (w.forCall tape i).memory i.args ∧ ({} : Assume).holds Tryz.prog (lone (Frame.enter Tryz.prog 3 i.args .normal) [] (w.forCall tape i)) :=
  ⟨World.laidAll Tryz.prog os laidV, fun _ _ => 0, ⟨#[], #[.string ⟨#[]⟩], []⟩, World.laidAll_os _ _ _, World.shaped_of_ZipB (by kernel_rfl) (by kernel_rfl),
    rfl, (Input.okWide_of_okWideB (by kernel_rfl)).2,
    OpenSpec.preRow_of_B rfl 8 (by kernel_rfl) (by kernel_rfl) (by rw [MakeChecks.laidMetH_plain _ _ _ (by kernel_rfl)]; exact laidMet_laidAll _ (by kernel_rfl) (by kernel_rfl)), by
    simp only [Assume.holds]
    exact ⟨by simp, by simp, fun _ => Modest.zero, by simp, by simp⟩⟩
set_option maxRecDepth 100000 in
theorem verdictSays_lifted (os : Os) (started : os.Started) (H : Type) (enc : TypeId × Value → H) (F : Stop.Interp) :
    ReturnsInHanded {} Tryz.checked os 3 .any ((OpenSpec.ofChange Rows.verdictSaysSpec).preRow enc Tryz.prog Tryz.f3 Rows.verdictSaysRow.domain false laidV) (((OpenSpec.ofChange Rows.verdictSaysSpec).at F).post enc Tryz.prog Tryz.f3 false true false false) := by
  refine returnsInHanded_of_row (C := Tryz.checked) (s := OpenSpec.ofChange Rows.verdictSaysSpec) own started (by kernel_rfl) Tryz.func3 (verdictSays_witness os H enc) ?_
  intro W base args ds gs before hval hW _ _ _ hL hsh _
  rw [MakeChecks.laidMetH_plain _ _ _ (by kernel_rfl)] at hL
  have hTx : TxD W := txD_of (txW_of hsh hL.tail.tail hL.tail.tail.tail.tail hL.tail.tail.tail.tail.tail) hL.tail.tail.tail.tail.tail.tail.tail
  exact verdictSays_contract H enc W base args ds gs before hval hW hTx
theorem andB {a b : Bool} (h1 : a = true) (h2 : b = true) : (a && b) = true := by rw [h1, h2]; rfl
theorem verdictSays_f1 : (Rows.verdictSaysRow.inPlace == Tryz.prog.inPlace 3) = true := by kernel_rfl
theorem verdictSays_f2 : (Rows.verdictSaysRow.unfollowed == Tryz.prog.unfollowed 3) = true := by kernel_rfl
theorem verdictSays_f3 : (Rows.verdictSaysRow.recurses == Tryz.prog.recurses 3) = true := by kernel_rfl
theorem verdictSays_f4 : (Rows.verdictSaysRow.named == Tryz.prog.varsNamed 3) = true := by kernel_rfl
theorem verdictSays_facts : joinedFacts Tryz.prog 3 Tryz.f3 (OpenSpec.ofChange Rows.verdictSaysSpec).bare Rows.verdictSaysRow = true := by
  unfold joinedFacts
  repeat' (with_reducible apply andB)
  all_goals first | with_reducible exact verdictSays_f1 | with_reducible exact verdictSays_f2 | with_reducible exact verdictSays_f3 | with_reducible exact verdictSays_f4 | kernel_rfl
theorem verdictSays_row : Rows.VerdictSaysSaid :=
  OpenClaim.holds_of_cond 3 Tryz.f3 rfl rfl rfl rfl rfl rfl rfl ⟨rfl, rfl, rfl, rfl, rfl⟩ rfl rfl rfl rfl rfl (by kernel_rfl) Tryz.func3 verdictSays_facts
    (of_decide_eq_true (by kernel_rfl)) (by unfold Func.isWrapper; first | (rw [if_pos (by decide +kernel)]; kernel_rfl) | (rw [if_neg (by decide +kernel)]; exact ⟨rfl, rfl⟩))
    (fun os started H enc _ F => by rw [OpenClaim.pre_eq_preRow]; exact verdictSays_lifted os started H enc F)
theorem verdictSays_holds : Rows.VerdictSaysCardSaid :=
  Claim7.holds_tied_plain_at .later [] [.data, .data, .data, .data, .sentinel, .sentinel, .listed, .data, .pinned] true (true, "9e3fd4e1c3051d11546bef9628f93769cecb64a5a37d22f673b27d4b37f9cc43") true
    verdictSays_row (fun _ h => by cases h) (by kernel_rfl) (fun _ h => by cases h) verdictSays_row_tie rfl ⟨rfl, rfl⟩ (by kernel_rfl) rfl
    (fun f fn hf hfn => by
      obtain rfl : f = 3 := Option.some.inj ((show Tryz.prog.funcNamed "alibi/aliblaw.VerdictSays" = some 3 by kernel_rfl).symm.trans hf) |>.symm
      obtain rfl : fn = Tryz.f3 := (Option.some.inj (Tryz.func3.symm.trans hfn)).symm
      exact ⟨by kernel_rfl, fun j t ht => by
        rw [Tryz.params3] at ht
        have hm : t ∈ [9] := by simpa using Array.mem_of_getElem? ht
        have hall : ([9].all fun u => !Tryz.prog.wantsStandIn u) = true := by kernel_rfl
        exact (show Tryz.prog.wantsStandIn t = false by simpa using List.all_eq_true.1 hall t hm)⟩)
    (by kernel_rfl)
#print axioms verdictSays_holds
end Go.Proofs.YtjdckepbihcgfaaGreatDoor
