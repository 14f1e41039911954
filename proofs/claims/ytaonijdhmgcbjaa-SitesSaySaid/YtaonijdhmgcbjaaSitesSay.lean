/- The law SitesSay: Play answers what the document says. No condition. -/
import Derived.Test.YtaonijdhmgcbjaaG14
import Derived.Test.YtaonijdhmgcbjaaG21
import Derived.Test.YtaonijdhmgcbjaaG05
set_option linter.unusedSimpArgs false
set_option linter.unusedVariables false
set_option linter.unusedSectionVars false
set_option linter.unnecessarySimpa false
namespace Go.Proofs.Ytaonijdhmgcbjaa
open Go.RowKit

section
variable (n : Int) (fast : Bool) (D0 B0 : Option Addr) (e0 d0 : Nat) (hs : List Hd) (ps : List (List Ak)) (l : List Ac) (w : World) (hn : -9223372036854775807 ≤ n ∧ n ≤ 9223372036854775807) (hpl : ps.length ≤ 9223372036854775807) (hll : l.length ≤ 9223372036854775807) (hD : RdRows Ak.enc 3 w D0 hs ps) (hB : RdE Ac.enc 2 w B0 l)
include hpl hll hD hB
set_option maxRecDepth 100000 in
set_option maxHeartbeats 8000000 in
theorem sitesSay_any : Calls Try.prog 3 #[.int .i64 n, .bool fast, .slice D0 hs.length e0, .slice B0 l.length d0] w fun e w' => e = .returned (.bool true) ∧ Below w.heap.size w w' := by
  have hlen : hs.length = ps.length := hD.2.1
  have hrows : ∀ {C : Ctx} {w' : World} {S : List Ent}, C.F = [] → C.w0 = w → Mem C w' S → RdRows Ak.enc 3 w' D0 hs ps := fun hF h0 hw =>
    ⟨hw.rd hF (by rw [h0]; exact hD.1), hD.2.1, fun j h1 h2 => ⟨(hD.2.2 j h1 h2).1, (hD.2.2 j h1 h2).2.1, (hD.2.2 j h1 h2).2.2.1, hw.rd hF (by rw [h0]; exact (hD.2.2 j h1 h2).2.2.2)⟩⟩
  have hplay := fun w h1 h2 => svPlay_any n fast D0 B0 e0 d0 hs ps l w hpl hll h1 h2
  have har := fun w h1 h2 => actsRight_any n D0 B0 e0 d0 hs ps l w hpl hll h1 h2
  unfold PlayPost3 plV at hplay
  by_cases h0 : actsE n ps l = 0
  · rw [if_neg (by simp [h0])] at hplay
    obtain ⟨hn1, hn5, hpp, hl1000, hact⟩ := actsE_ok h0
    obtain ⟨nn, rfl⟩ : ∃ nn : Nat, n = nn := ⟨n.toNat, by omega⟩
    rw [Int.toNat_natCast] at hact hplay
    obtain ⟨hty, h8, hps⟩ := pplR_ok hpp
    have hsim := run_sim (n := nn) (fast := fast) h8 hact l.length (Nat.le_refl _)
    have hok := runV_ok (n := nn) (fast := fast) h8 hact l.length (Nat.le_refl _)
    have hkp := fun w h1 h2 => kept_any nn fast D0 B0 e0 d0 hs ps l w h8 hl1000 (by omega) h1 h2 hact
    unfold KPost at hkp
    have he1 := hok.le
    have he2 := hok.at_
    have hpl := hplay
    rw [hsim.evs, hsim.at_] at hpl
    rw [h0] at har
    clear hplay hsim hok
    generalize (runV nn fast ps l l.length).evs = RE at *
    generalize (runV nn fast ps l l.length).at_ = RS at *
    dsimp only at hpl
    obtain ⟨RZ, hRZ⟩ : ∃ z : Int, z = 0 := ⟨0, rfl⟩
    rw [← hRZ] at hpl
    have heq := fun A B c d w' h1 h2 => equalEv_any A B c d RE RE w' (by omega) (by omega) h1 h2
    have hes := fun A B c d w' h1 h2 => equalSiq_any A B c d RS RS w' (by omega) (by omega) h1 h2
    refine calls_T (S := []) [] Try.func3 rfl Try.ntmps3 (by simp) (Mem.nil _) ?_
    repeat' (first | (refine GO ?_) | (refine GOE ?_; (first | (rintro _ _ ⟨rfl, rfl⟩) | (rintro _ _ ⟨g, rfl, rfl⟩) | (rintro _ _ ⟨A', c', rfl, rfl⟩))) | ((refine GO2 ?_ ?_) <;> intro h <;> (try (repeat (first | with_reducible (replace h := of_decide_eq_true h) | with_reducible (replace h := of_decide_eq_false h) | with_reducible (replace h := bnt h) | with_reducible (replace h := bnf h) | with_reducible (replace h := Int.not_lt.mp h) | with_reducible (replace h := Int.not_le.mp h) | with_reducible (replace h := band_dec h) | with_reducible (replace h := band_decF h) | with_reducible (replace h := bor_dec h) | with_reducible (replace h := bor_decF h)))) <;> (try (exfalso; first | contradiction | omega))) | ((with_reducible (first | apply TD_e2z | apply TD_e3z | apply TL_e | apply TD_e2 | apply TD_e3)); ((with_reducible apply ES_callNew (f := 6) (X := (Option Addr × Nat) × (Option Addr × Nat)) (fun x => .tuple #[.slice x.1.1 RE.length x.1.2, .slice x.2.1 RS.length x.2.2, .int .i64 RZ]) (fun x => [entOwn Ev.enc 4 34 x.1.1 x.1.2 RE, entOwn Si.enc 4 37 x.2.1 x.2.2 RS])); exact rfl; (intro x; (try dsimp only); repeat (first | exact AppL.nil _ | apply AppL.cons)); (intro w hw; exact hpl w (hrows rfl rfl hw) (hw.rd rfl hB)); exact rfl); (first | exact rfl | exact ⟨rfl, rfl, rfl⟩); (rintro _ _ ⟨⟨⟨A1, c1⟩, ⟨A2, c2⟩⟩, rfl, rfl⟩); (try refine ⟨SUB, ?_⟩)) | ((with_reducible (first | apply TD_e2z | apply TD_e3z | apply TL_e | apply TD_e2 | apply TD_e3)); ((with_reducible apply ES_callV (f := 7)); exact rfl; (intro w hw; exact har w (hrows rfl rfl hw) (hw.rd rfl hB)); exact rfl); (first | exact rfl | exact ⟨rfl, rfl, rfl⟩); (rintro _ _ ⟨rfl, rfl⟩); (try refine ⟨SUB, ?_⟩)) | ((with_reducible (first | apply TD_e2z | apply TD_e3z | apply TL_e | apply TD_e2 | apply TD_e3)); ((with_reducible apply ES_callNew (f := 8) (X := (Option Addr × Nat) × (Option Addr × Nat)) (fun x => .tuple #[.slice x.1.1 RE.length x.1.2, .slice x.2.1 RS.length x.2.2]) (fun x => [entOwn Ev.enc 4 34 x.1.1 x.1.2 RE, entOwn Si.enc 4 37 x.2.1 x.2.2 RS])); exact rfl; (intro x; (try dsimp only); repeat (first | exact AppL.nil _ | apply AppL.cons)); (intro w hw; exact hkp w (hrows rfl rfl hw) (hw.rd rfl hB)); exact rfl); (first | exact rfl | exact ⟨rfl, rfl, rfl⟩); (rintro _ _ ⟨⟨⟨A3, c3⟩, ⟨A4, c4⟩⟩, rfl, rfl⟩); (try refine ⟨SUB, ?_⟩)) | ((with_reducible (first | apply TD_e2z | apply TD_e3z | apply TL_e | apply TD_e2 | apply TD_e3)); ((with_reducible apply ES_callV (f := 9)); exact rfl; (intro w hw; exact heq A1 A3 c1 c3 w (hw.ownRd (by first | ((repeat (first | with_reducible exact List.mem_cons_self | with_reducible apply List.mem_cons_of_mem)); done) | (repeat (first | exact List.Mem.head _ | apply List.Mem.tail))) (fun _ => rfl)) (hw.ownRd (by first | ((repeat (first | with_reducible exact List.mem_cons_self | with_reducible apply List.mem_cons_of_mem)); done) | (repeat (first | exact List.Mem.head _ | apply List.Mem.tail))) (fun _ => rfl))); exact rfl); (first | exact rfl | exact ⟨rfl, rfl, rfl⟩); (rintro _ _ ⟨rfl, rfl⟩); (try refine ⟨SUB, ?_⟩)) | ((with_reducible (first | apply TD_e2z | apply TD_e3z | apply TL_e | apply TD_e2 | apply TD_e3)); ((with_reducible apply ES_callV (f := 10)); exact rfl; (intro w hw; exact hes A2 A4 c2 c4 w (hw.ownRd (by first | ((repeat (first | with_reducible exact List.mem_cons_self | with_reducible apply List.mem_cons_of_mem)); done) | (repeat (first | exact List.Mem.head _ | apply List.Mem.tail))) (fun _ => rfl)) (hw.ownRd (by first | ((repeat (first | with_reducible exact List.mem_cons_self | with_reducible apply List.mem_cons_of_mem)); done) | (repeat (first | exact List.Mem.head _ | apply List.Mem.tail))) (fun _ => rfl))); exact rfl); (first | exact rfl | exact ⟨rfl, rfl, rfl⟩); (rintro _ _ ⟨rfl, rfl⟩); (try refine ⟨SUB, ?_⟩)) | fail)
    all_goals first
      | ((refine At_ret Try.results3 rfl (fun w' hw => ?_)); exact ⟨by simp [resVal, hRZ], hw.below0 rfl⟩)
      | (exfalso; omega)
      | (exfalso; simp_all; done)
  · rw [if_pos h0] at hplay
    have hpl := hplay
    clear hplay
    obtain ⟨RE, hRE⟩ : ∃ l : List Ev, l = [] := ⟨_, rfl⟩
    obtain ⟨RS, hRS⟩ : ∃ l : List Si, l = [] := ⟨_, rfl⟩
    generalize actsE n ps l = RZ at *
    have hE0 : ((RE.length : Nat) : Int) = 0 := by rw [hRE]; rfl
    have hS0 : ((RS.length : Nat) : Int) = 0 := by rw [hRS]; rfl
    rw [← hRE, ← hRS] at hpl
    dsimp only at hpl
    refine calls_T (S := []) [] Try.func3 rfl Try.ntmps3 (by simp) (Mem.nil _) ?_
    repeat' (first | (refine GO ?_) | (refine GOE ?_; (first | (rintro _ _ ⟨rfl, rfl⟩) | (rintro _ _ ⟨g, rfl, rfl⟩) | (rintro _ _ ⟨A', c', rfl, rfl⟩))) | ((refine GO2 ?_ ?_) <;> intro h <;> (try (repeat (first | with_reducible (replace h := of_decide_eq_true h) | with_reducible (replace h := of_decide_eq_false h) | with_reducible (replace h := bnt h) | with_reducible (replace h := bnf h) | with_reducible (replace h := Int.not_lt.mp h) | with_reducible (replace h := Int.not_le.mp h) | with_reducible (replace h := band_dec h) | with_reducible (replace h := band_decF h) | with_reducible (replace h := bor_dec h) | with_reducible (replace h := bor_decF h)))) <;> (try (exfalso; first | contradiction | omega))) | ((with_reducible (first | apply TD_e2z | apply TD_e3z | apply TL_e | apply TD_e2 | apply TD_e3)); ((with_reducible apply ES_callNew (f := 6) (X := (Option Addr × Nat) × (Option Addr × Nat)) (fun x => .tuple #[.slice x.1.1 RE.length x.1.2, .slice x.2.1 RS.length x.2.2, .int .i64 RZ]) (fun x => [entOwn Ev.enc 4 34 x.1.1 x.1.2 RE, entOwn Si.enc 4 37 x.2.1 x.2.2 RS])); exact rfl; (intro x; (try dsimp only); repeat (first | exact AppL.nil _ | apply AppL.cons)); (intro w hw; exact hpl w (hrows rfl rfl hw) (hw.rd rfl hB)); exact rfl); (first | exact rfl | exact ⟨rfl, rfl, rfl⟩); (rintro _ _ ⟨⟨⟨A1, c1⟩, ⟨A2, c2⟩⟩, rfl, rfl⟩); (try refine ⟨SUB, ?_⟩)) | ((with_reducible (first | apply TD_e2z | apply TD_e3z | apply TL_e | apply TD_e2 | apply TD_e3)); ((with_reducible apply ES_callV (f := 7)); exact rfl; (intro w hw; exact har w (hrows rfl rfl hw) (hw.rd rfl hB)); exact rfl); (first | exact rfl | exact ⟨rfl, rfl, rfl⟩); (rintro _ _ ⟨rfl, rfl⟩); (try refine ⟨SUB, ?_⟩)) | fail)
    all_goals first
      | ((refine At_ret Try.results3 rfl (fun w' hw => ?_)); exact ⟨by simp [resVal, hRE, hRS], hw.below0 rfl⟩)
      | (exfalso; omega)
      | (exfalso; simp_all; done)
end

open Go.ChangeShapes Go.WideShapes Go.ChangeAt Go.Deep in
set_option maxRecDepth 100000 in
theorem sitesSay_contract (H : Type) (enc : TypeId × Value → H) (W : World) (base : Nat) (args : Array Value) (ds gs : List (DataW H)) (before : List MemPlace)
    (hval : ∀ (j : Nat) t v, Try.f3.params[j]? = some t → args[j]? = some v → Value.okWide Try.prog W .any base t v)
    (hW : DataW.Whole enc Try.prog Try.f3.params.toList Rows.sitesSaySpec.vars false W args.toList ds gs before) :
    Calls Try.prog 3 args W fun e W' => ∃ v, e = .returned v ∧ Rows.sitesSaySpec.post enc Try.prog Try.f3 false true false false W args v W' := by
  have hW' := hW
  obtain ⟨p, q, hA, -, -, -, -⟩ := hW
  rw [Try.params3] at hA hval
  obtain ⟨v0, vs0, d0, ds0, p0, q0, hargs0, rfl, rfl, h0, r0⟩ := trodAll_cons hA
  obtain ⟨v1, vs1, d1, ds1, p1, q1, hargs1, rfl, rfl, h1, r1⟩ := trodAll_cons r0
  obtain ⟨v2, vs2, d2, ds2, p2, q2, hargs2, rfl, rfl, h2, r2⟩ := trodAll_cons r1
  obtain ⟨v3, vs3, d3, ds3, p3, q3, hargs3, rfl, rfl, h3, r3⟩ := trodAll_cons r2
  obtain ⟨rfl, rfl, rfl⟩ := trodAll_nil r3
  obtain rfl : args = #[v0, v1, v2, v3] := by cases args; simp_all
  obtain ⟨n, rfl⟩ := okWide_int Try.underlying3 (hval 0 _ _ rfl rfl)
  obtain ⟨fast, rfl⟩ := okWide_bool Try.underlying4 (hval 1 _ _ rfl rfl)
  obtain ⟨D, k, e, rfl⟩ := okWide_slice Try.underlying22 (hval 2 _ _ rfl rfl)
  obtain ⟨B, m, d, rfl⟩ := okWide_slice Try.underlying23 (hval 3 _ _ rfl rfl)
  obtain ⟨fuel2, hf2⟩ := h2
  obtain ⟨fuel1, hf1⟩ := h3
  obtain ⟨B', len1, cap1, Z1, hcs1, hlen1, hlc1, hZ1⟩ := open_int_rows Try.underlying23 Try.underlying86 (by kernel_rfl) (by kernel_rfl) Try.underlying3 (by kernel_rfl) hf1
  have hcs1' : B = B' ∧ m = len1 ∧ d = cap1 := by simpa [Value.cells] using hcs1
  obtain ⟨rfl, rfl, rfl⟩ := hcs1'
  obtain ⟨D', len2, cap2, hd, Z2, hcs2, hlen2, hlc2, hZ2⟩ := open_row_rows Try.underlying22 (by kernel_rfl) Try.underlying80 Try.underlying98 (by kernel_rfl) (by kernel_rfl) Try.underlying3 (by kernel_rfl) hf2
  have hcs2' : D = D' ∧ k = len2 ∧ e = cap2 := by simpa [Value.cells] using hcs2
  obtain ⟨rfl, rfl, rfl⟩ := hcs2'
  have hl1 : ((List.range m).map fun i => (⟨Z1 i 0, Z1 i 1⟩ : Ac)).length = m := by simp
  have hl2 : ((List.range k).map hd).length = k := by simp
  have hR1 : RdE Ac.enc 2 W B ((List.range m).map fun i => (⟨Z1 i 0, Z1 i 1⟩ : Ac)) := rdE_of_rows (fun z => (⟨z 0, z 1⟩ : Ac)) Ac.enc (by decide) (fun z j v hv => by
      match j, hv with
      | 0, hv => exact ⟨by decide, by simpa [Ac.enc] using hv.symm⟩
      | 1, hv => exact ⟨by decide, by simpa [Ac.enc] using hv.symm⟩
      | j + 2, hv => simp [Ac.enc] at hv) hZ1
  have hR2 : RdRows Ak.enc 3 W D ((List.range k).map hd) ((List.range k).map fun i => (List.range (hd i).n).map fun q => (⟨Z2 i q 0, Z2 i q 1, Z2 i q 2⟩ : Ak)) :=
    rdRows_of (fun z => (⟨z 0, z 1, z 2⟩ : Ak)) Ak.enc (by decide) (fun z j v hv => by
      match j, hv with
      | 0, hv => exact ⟨by decide, by simpa [Ak.enc] using hv.symm⟩
      | 1, hv => exact ⟨by decide, by simpa [Ak.enc] using hv.symm⟩
      | 2, hv => exact ⟨by decide, by simpa [Ak.enc] using hv.symm⟩
      | j + 3, hv => simp [Ak.enc] at hv) hZ2
  unfold maxLen at hlen1 hlen2
  have hcall : Calls Try.prog 3 #[.int .i64 n, .bool fast, .slice D k e, .slice B m d] W fun e W' => e = .returned (.bool true) ∧ Below W.heap.size W W' := by
    have hwl : ((List.range k).map fun i => (List.range (hd i).n).map fun q => (⟨Z2 i q 0, Z2 i q 1, Z2 i q 2⟩ : Ak)).length = k := by simp
    generalize ((List.range m).map fun i => (⟨Z1 i 0, Z1 i 1⟩ : Ac)) = l at *
    generalize ((List.range k).map fun i => (List.range (hd i).n).map fun q => (⟨Z2 i q 0, Z2 i q 1, Z2 i q 2⟩ : Ak)) = R at *
    generalize ((List.range k).map hd) = hs at *
    subst hl1 hl2
    exact sitesSay_any n fast D B e d hs R l W (by omega) (by omega) hR2 hR1
  refine hcall.mono fun e W' ⟨he, hb⟩ => ⟨_, he, ?_⟩
  exact law_post laidOut (by kernel_rfl) rfl rfl Try.underlying4 hW' (fun _ => by subst_vars; rfl) hb

open Go.ChangeShapes Go.WideShapes Go.ChangeAt Go.Deep in
set_option maxRecDepth 100000 in
theorem sitesSay_lifted (os : Os) (started : os.Started) (H : Type) (enc : TypeId × Value → H) :
    ReturnsInHanded {} Try.checked os 3 .any (Rows.sitesSaySpec.pre6 enc Try.prog Try.f3 Rows.sitesSayRow.domain false) (Rows.sitesSaySpec.post enc Try.prog Try.f3 false true false false) := by
  refine returnsInHanded_of_change (C := Try.checked) own started (by kernel_rfl) Try.func3
    (ChangeSpec.witness6 (enc := enc) (C := Try.checked) false ⟨#[], #[.int .i64 0, .bool false, .slice none 0 0, .slice none 0 0], []⟩ 8 (by kernel_rfl) (by kernel_rfl) (by kernel_rfl) (by kernel_rfl)) ?_
  intro W base args ds gs before hval hW _ _
  exact sitesSay_contract H enc W base args ds gs before hval hW
theorem sitesSay_holds : Rows.SitesSaySaid :=
  OpenClaim.holds_of_wide 3 Try.f3 rfl rfl rfl rfl rfl rfl rfl ⟨rfl, rfl, rfl, rfl, rfl⟩ rfl rfl rfl rfl rfl (by kernel_rfl) Try.func3 (by kernel_rfl)
    (of_decide_eq_true (by kernel_rfl)) (by unfold Func.isWrapper; first | (rw [if_pos (by decide +kernel)]; kernel_rfl) | (rw [if_neg (by decide +kernel)]; exact ⟨rfl, rfl⟩))
    (fun os started H enc _ => sitesSay_lifted os started H enc)
#print axioms sitesSay_holds
end Go.Proofs.Ytaonijdhmgcbjaa
