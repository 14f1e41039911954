/- The law ThreadsSay: Check and Play answer what the document says. No condition. -/
import Derived.Test.YtbhjljnbjomnhaaG16
import Derived.Test.YtbhjljnbjomnhaaG19
import Derived.Test.YtbhjljnbjomnhaaG20
import Derived.Test.YtbhjljnbjomnhaaG13
set_option linter.unusedSimpArgs false
set_option linter.unusedVariables false
set_option linter.unusedSectionVars false
set_option linter.unnecessarySimpa false
namespace Go.Proofs.Ytbhjljnbjomnhaa
open Go.RowKit

section
variable (A0 D0 B0 : Option Addr) (c0 e0 d0 : Nat) (ts : List Int) (hs : List Hd) (ps : List (List Ak)) (tu : List Int) (w : World) (hts : ts.length ≤ 9223372036854775807) (hpl : ps.length ≤ 9223372036854775807) (htl : tu.length ≤ 9223372036854775807) (hT : RdInt w A0 ts) (hD : RdRows Ak.enc 3 w D0 hs ps) (hB : RdInt w B0 tu)
include hts hpl htl hT hD hB
set_option maxRecDepth 100000 in
set_option maxHeartbeats 8000000 in
theorem threadsSay_any : Calls Try.prog 9 #[.slice A0 ts.length c0, .slice D0 hs.length e0, .slice B0 tu.length d0] w fun e w' => e = .returned (.bool true) ∧ Below w.heap.size w w' := by
  have hlen : hs.length = ps.length := hD.2.1
  have hrows : ∀ {C : Ctx} {w' : World} {S : List Ent}, C.F = [] → C.w0 = w → Mem C w' S → RdRows Ak.enc 3 w' D0 hs ps := fun hF h0 hw =>
    ⟨hw.rd hF (by rw [h0]; exact hD.1), hD.2.1, fun j h1 h2 => ⟨(hD.2.2 j h1 h2).1, (hD.2.2 j h1 h2).2.1, (hD.2.2 j h1 h2).2.2.1, hw.rd hF (by rw [h0]; exact (hD.2.2 j h1 h2).2.2.2)⟩⟩
  have hplay := fun w h1 h2 h3 => thPlay_any A0 D0 B0 c0 e0 d0 ts hs ps tu w hts hpl htl h1 h2 h3
  have hck := fun w h1 h2 => thCheck_any A0 D0 c0 e0 ts hs ps w hts hpl h1 h2
  have hpe := fun w h1 h2 => peopleRight_any A0 D0 c0 e0 ts hs ps w hts hpl h1 h2
  have htn := fun w h => turnsRight_any (ps.length : Int) B0 d0 tu w htl h (by omega)
  have hat := fun w h1 h2 h3 hp ht => atOnce_any A0 D0 B0 c0 e0 d0 ts hs ps tu w hts hpl htl h1 h2 h3 hp ht
  have hln := fun k => runT_len ts ps tu k
  have htk : trnR (ps.length : Int) 300 tu = 0 → tu.length ≤ 300 := fun h => by have := (trnR_ok h).1; omega
  unfold PlayPost plT at hplay
  rw [← hlen] at htn hplay hat htk
  clear hpl
  by_cases hP : pplR ts ps = 0
  · rw [if_neg (by simp [hP])] at hplay
    by_cases hN : trnR (hs.length : Int) 300 tu = 0
    · rw [if_neg (by simp [hN])] at hplay
      have hpl := hplay
      have hat := fun w h1 h2 h3 => hat w h1 h2 h3 hP hN
      have h3 := htk hN
      have h4 := hln tu.length
      rw [hP] at hck hpe
      rw [hN] at htn
      clear hplay hln htk
      generalize runT ts ps tu tu.length = RR at *
      obtain ⟨pe, dn, RE, RS, cl⟩ := RR
      dsimp only at hpl hat h4
      have heq1 := fun A B c d w' h1 h2 => equalEv_any A B c d RE RE w' (by omega) (by omega) h1 h2
      have heq2 := fun A B c d w' h1 h2 => equalStp_any A B c d RS RS w' (by omega) (by omega) h1 h2
      obtain ⟨RZ, hRZ⟩ : ∃ z : Int, z = 0 := ⟨0, rfl⟩
      rw [← hRZ] at hpl
      refine calls_T (S := []) [] Try.func9 rfl Try.ntmps9 (by simp) (Mem.nil _) ?_
      repeat' (first | (refine GO ?_) | (refine GOE ?_; (first | (rintro _ _ ⟨rfl, rfl⟩) | (rintro _ _ ⟨g, rfl, rfl⟩) | (rintro _ _ ⟨A', c', rfl, rfl⟩))) | ((refine GO2 ?_ ?_) <;> intro h <;> (try (repeat (first | with_reducible (replace h := of_decide_eq_true h) | with_reducible (replace h := of_decide_eq_false h) | with_reducible (replace h := bnt h) | with_reducible (replace h := bnf h) | with_reducible (replace h := Int.not_lt.mp h) | with_reducible (replace h := Int.not_le.mp h) | with_reducible (replace h := band_dec h) | with_reducible (replace h := band_decF h) | with_reducible (replace h := bor_dec h) | with_reducible (replace h := bor_decF h)))) <;> (try (exfalso; first | contradiction | omega))) | ((with_reducible (first | apply TD_e2z | apply TD_e3z | apply TL_e | apply TD_e2 | apply TD_e3)); ((with_reducible apply ES_callNew (f := 44) (v := (fun x : (Option Addr × Nat) × (Option Addr × Nat) => .tuple #[.slice x.1.1 RE.length x.1.2, .slice x.2.1 RS.length x.2.2, .int .i64 RZ])) (S1 := (fun x : (Option Addr × Nat) × (Option Addr × Nat) => [entOwn Ev.enc 4 86 x.1.1 x.1.2 RE, entOwn Stp.enc 2 39 x.2.1 x.2.2 RS]))); exact rfl; (intro x; (try dsimp only); repeat (first | exact AppL.nil _ | apply AppL.cons)); (intro w hw; exact hpl w (hw.rd rfl hT) (hrows rfl rfl hw) (hw.rd rfl hB)); exact rfl); (first | exact rfl | exact ⟨rfl, rfl, rfl⟩); (rintro _ _ ⟨⟨⟨A1, c1⟩, ⟨A2, c2⟩⟩, rfl, rfl⟩); (try refine ⟨SUB, ?_⟩)) | ((with_reducible (first | apply TD_e2z | apply TD_e3z | apply TL_e | apply TD_e2 | apply TD_e3)); ((with_reducible apply ES_callV (f := 35)); exact rfl; (intro w hw; exact hpe w (hw.rd rfl hT) (hrows rfl rfl hw)); exact rfl); (first | exact rfl | exact ⟨rfl, rfl, rfl⟩); (rintro _ _ ⟨rfl, rfl⟩); (try refine ⟨SUB, ?_⟩)) | ((with_reducible (first | apply TD_e2z | apply TD_e3z | apply TL_e | apply TD_e2 | apply TD_e3)); ((with_reducible apply ES_callV (f := 45)); exact rfl; (intro w hw; exact hck w (hw.rd rfl hT) (hrows rfl rfl hw)); exact rfl); (first | exact rfl | exact ⟨rfl, rfl, rfl⟩); (rintro _ _ ⟨rfl, rfl⟩); (try refine ⟨SUB, ?_⟩)) | ((with_reducible (first | apply TD_e2z | apply TD_e3z | apply TL_e | apply TD_e2 | apply TD_e3)); ((with_reducible apply ES_callV (f := 36)); exact rfl; (intro w hw; exact htn w (hw.rd rfl hB)); exact rfl); (first | exact rfl | exact ⟨rfl, rfl, rfl⟩); (rintro _ _ ⟨rfl, rfl⟩); (try refine ⟨SUB, ?_⟩)) | ((with_reducible (first | apply TD_e2z | apply TD_e3z | apply TL_e | apply TD_e2 | apply TD_e3)); ((with_reducible apply ES_callNew (f := 46) (v := (fun x : (Option Addr × Nat) × (Option Addr × Nat) => .tuple #[.slice x.1.1 RE.length x.1.2, .slice x.2.1 RS.length x.2.2])) (S1 := (fun x : (Option Addr × Nat) × (Option Addr × Nat) => [entOwn Ev.enc 4 86 x.1.1 x.1.2 RE, entOwn Stp.enc 2 39 x.2.1 x.2.2 RS]))); exact rfl; (intro x; (try dsimp only); repeat (first | exact AppL.nil _ | apply AppL.cons)); (intro w hw; exact hat w (hw.rd rfl hT) (hrows rfl rfl hw) (hw.rd rfl hB)); exact rfl); (first | exact rfl | exact ⟨rfl, rfl, rfl⟩); (rintro _ _ ⟨⟨⟨A3, c3⟩, ⟨A4, c4⟩⟩, rfl, rfl⟩); (try refine ⟨SUB, ?_⟩)) | ((with_reducible (first | apply TD_e2z | apply TD_e3z | apply TL_e | apply TD_e2 | apply TD_e3)); ((with_reducible apply ES_callV (f := 39)); exact rfl; (intro w hw; exact heq1 A1 A3 c1 c3 w (hw.ownRd (by first | ((repeat (first | with_reducible exact List.mem_cons_self | with_reducible apply List.mem_cons_of_mem)); done) | (repeat (first | exact List.Mem.head _ | apply List.Mem.tail))) (fun _ => rfl)) (hw.ownRd (by first | ((repeat (first | with_reducible exact List.mem_cons_self | with_reducible apply List.mem_cons_of_mem)); done) | (repeat (first | exact List.Mem.head _ | apply List.Mem.tail))) (fun _ => rfl))); exact rfl); (first | exact rfl | exact ⟨rfl, rfl, rfl⟩); (rintro _ _ ⟨rfl, rfl⟩); (try refine ⟨SUB, ?_⟩)) | ((with_reducible (first | apply TD_e2z | apply TD_e3z | apply TL_e | apply TD_e2 | apply TD_e3)); ((with_reducible apply ES_callV (f := 16)); exact rfl; (intro w hw; exact heq2 A2 A4 c2 c4 w (hw.ownRd (by first | ((repeat (first | with_reducible exact List.mem_cons_self | with_reducible apply List.mem_cons_of_mem)); done) | (repeat (first | exact List.Mem.head _ | apply List.Mem.tail))) (fun _ => rfl)) (hw.ownRd (by first | ((repeat (first | with_reducible exact List.mem_cons_self | with_reducible apply List.mem_cons_of_mem)); done) | (repeat (first | exact List.Mem.head _ | apply List.Mem.tail))) (fun _ => rfl))); exact rfl); (first | exact rfl | exact ⟨rfl, rfl, rfl⟩); (rintro _ _ ⟨rfl, rfl⟩); (try refine ⟨SUB, ?_⟩)) | fail)
      all_goals first
        | (exfalso; omega)
        | (exfalso; simp_all; done)
        | ((refine At_ret Try.results9 rfl (fun w' hw => ?_)); exact ⟨by simp [resVal, hRZ], hw.below0 rfl⟩)
    · rw [if_pos (by simp [hN])] at hplay
      have hpl := hplay
      rw [hP] at hck hpe
      clear hplay hln htk hat
      generalize trnR (hs.length : Int) 300 tu = RZ at *
      obtain ⟨RE, hRE⟩ : ∃ l : List Ev, l = [] := ⟨_, rfl⟩
      obtain ⟨RS, hRS⟩ : ∃ l : List Stp, l = [] := ⟨_, rfl⟩
      rw [← hRE, ← hRS] at hpl
      dsimp only at hpl
      refine calls_T (S := []) [] Try.func9 rfl Try.ntmps9 (by simp) (Mem.nil _) ?_
      repeat' (first | (refine GO ?_) | (refine GOE ?_; (first | (rintro _ _ ⟨rfl, rfl⟩) | (rintro _ _ ⟨g, rfl, rfl⟩) | (rintro _ _ ⟨A', c', rfl, rfl⟩))) | ((refine GO2 ?_ ?_) <;> intro h <;> (try (repeat (first | with_reducible (replace h := of_decide_eq_true h) | with_reducible (replace h := of_decide_eq_false h) | with_reducible (replace h := bnt h) | with_reducible (replace h := bnf h) | with_reducible (replace h := Int.not_lt.mp h) | with_reducible (replace h := Int.not_le.mp h) | with_reducible (replace h := band_dec h) | with_reducible (replace h := band_decF h) | with_reducible (replace h := bor_dec h) | with_reducible (replace h := bor_decF h)))) <;> (try (exfalso; first | contradiction | omega))) | ((with_reducible (first | apply TD_e2z | apply TD_e3z | apply TL_e | apply TD_e2 | apply TD_e3)); ((with_reducible apply ES_callNew (f := 44) (v := (fun x : (Option Addr × Nat) × (Option Addr × Nat) => .tuple #[.slice x.1.1 RE.length x.1.2, .slice x.2.1 RS.length x.2.2, .int .i64 RZ])) (S1 := (fun x : (Option Addr × Nat) × (Option Addr × Nat) => [entOwn Ev.enc 4 86 x.1.1 x.1.2 RE, entOwn Stp.enc 2 39 x.2.1 x.2.2 RS]))); exact rfl; (intro x; (try dsimp only); repeat (first | exact AppL.nil _ | apply AppL.cons)); (intro w hw; exact hpl w (hw.rd rfl hT) (hrows rfl rfl hw) (hw.rd rfl hB)); exact rfl); (first | exact rfl | exact ⟨rfl, rfl, rfl⟩); (rintro _ _ ⟨⟨⟨A1, c1⟩, ⟨A2, c2⟩⟩, rfl, rfl⟩); (try refine ⟨SUB, ?_⟩)) | ((with_reducible (first | apply TD_e2z | apply TD_e3z | apply TL_e | apply TD_e2 | apply TD_e3)); ((with_reducible apply ES_callV (f := 35)); exact rfl; (intro w hw; exact hpe w (hw.rd rfl hT) (hrows rfl rfl hw)); exact rfl); (first | exact rfl | exact ⟨rfl, rfl, rfl⟩); (rintro _ _ ⟨rfl, rfl⟩); (try refine ⟨SUB, ?_⟩)) | ((with_reducible (first | apply TD_e2z | apply TD_e3z | apply TL_e | apply TD_e2 | apply TD_e3)); ((with_reducible apply ES_callV (f := 45)); exact rfl; (intro w hw; exact hck w (hw.rd rfl hT) (hrows rfl rfl hw)); exact rfl); (first | exact rfl | exact ⟨rfl, rfl, rfl⟩); (rintro _ _ ⟨rfl, rfl⟩); (try refine ⟨SUB, ?_⟩)) | ((with_reducible (first | apply TD_e2z | apply TD_e3z | apply TL_e | apply TD_e2 | apply TD_e3)); ((with_reducible apply ES_callV (f := 36)); exact rfl; (intro w hw; exact htn w (hw.rd rfl hB)); exact rfl); (first | exact rfl | exact ⟨rfl, rfl, rfl⟩); (rintro _ _ ⟨rfl, rfl⟩); (try refine ⟨SUB, ?_⟩)) | fail)
      all_goals first
        | (exfalso; omega)
        | (exfalso; simp_all; done)
        | ((refine At_ret Try.results9 rfl (fun w' hw => ?_)); exact ⟨by simp [resVal, hRE, hRS], hw.below0 rfl⟩)
  · rw [if_pos hP] at hplay
    have hpl := hplay
    clear hplay hln htk hat htn
    generalize pplR ts ps = RZ at *
    obtain ⟨RE, hRE⟩ : ∃ l : List Ev, l = [] := ⟨_, rfl⟩
    obtain ⟨RS, hRS⟩ : ∃ l : List Stp, l = [] := ⟨_, rfl⟩
    rw [← hRE, ← hRS] at hpl
    dsimp only at hpl
    refine calls_T (S := []) [] Try.func9 rfl Try.ntmps9 (by simp) (Mem.nil _) ?_
    repeat' (first | (refine GO ?_) | (refine GOE ?_; (first | (rintro _ _ ⟨rfl, rfl⟩) | (rintro _ _ ⟨g, rfl, rfl⟩) | (rintro _ _ ⟨A', c', rfl, rfl⟩))) | ((refine GO2 ?_ ?_) <;> intro h <;> (try (repeat (first | with_reducible (replace h := of_decide_eq_true h) | with_reducible (replace h := of_decide_eq_false h) | with_reducible (replace h := bnt h) | with_reducible (replace h := bnf h) | with_reducible (replace h := Int.not_lt.mp h) | with_reducible (replace h := Int.not_le.mp h) | with_reducible (replace h := band_dec h) | with_reducible (replace h := band_decF h) | with_reducible (replace h := bor_dec h) | with_reducible (replace h := bor_decF h)))) <;> (try (exfalso; first | contradiction | omega))) | ((with_reducible (first | apply TD_e2z | apply TD_e3z | apply TL_e | apply TD_e2 | apply TD_e3)); ((with_reducible apply ES_callNew (f := 44) (v := (fun x : (Option Addr × Nat) × (Option Addr × Nat) => .tuple #[.slice x.1.1 RE.length x.1.2, .slice x.2.1 RS.length x.2.2, .int .i64 RZ])) (S1 := (fun x : (Option Addr × Nat) × (Option Addr × Nat) => [entOwn Ev.enc 4 86 x.1.1 x.1.2 RE, entOwn Stp.enc 2 39 x.2.1 x.2.2 RS]))); exact rfl; (intro x; (try dsimp only); repeat (first | exact AppL.nil _ | apply AppL.cons)); (intro w hw; exact hpl w (hw.rd rfl hT) (hrows rfl rfl hw) (hw.rd rfl hB)); exact rfl); (first | exact rfl | exact ⟨rfl, rfl, rfl⟩); (rintro _ _ ⟨⟨⟨A1, c1⟩, ⟨A2, c2⟩⟩, rfl, rfl⟩); (try refine ⟨SUB, ?_⟩)) | ((with_reducible (first | apply TD_e2z | apply TD_e3z | apply TL_e | apply TD_e2 | apply TD_e3)); ((with_reducible apply ES_callV (f := 35)); exact rfl; (intro w hw; exact hpe w (hw.rd rfl hT) (hrows rfl rfl hw)); exact rfl); (first | exact rfl | exact ⟨rfl, rfl, rfl⟩); (rintro _ _ ⟨rfl, rfl⟩); (try refine ⟨SUB, ?_⟩)) | ((with_reducible (first | apply TD_e2z | apply TD_e3z | apply TL_e | apply TD_e2 | apply TD_e3)); ((with_reducible apply ES_callV (f := 45)); exact rfl; (intro w hw; exact hck w (hw.rd rfl hT) (hrows rfl rfl hw)); exact rfl); (first | exact rfl | exact ⟨rfl, rfl, rfl⟩); (rintro _ _ ⟨rfl, rfl⟩); (try refine ⟨SUB, ?_⟩)) | fail)
    all_goals first
      | (exfalso; omega)
      | (exfalso; simp_all; done)
      | ((refine At_ret Try.results9 rfl (fun w' hw => ?_)); exact ⟨by simp [resVal, hRE, hRS], hw.below0 rfl⟩)
end

open Go.ChangeShapes Go.WideShapes Go.ChangeAt Go.Deep in
set_option maxRecDepth 100000 in
theorem threadsSay_contract (H : Type) (enc : TypeId × Value → H) (W : World) (base : Nat) (args : Array Value) (ds gs : List (DataW H)) (before : List MemPlace)
    (hval : ∀ (j : Nat) t v, Try.f9.params[j]? = some t → args[j]? = some v → Value.okWide Try.prog W .any base t v)
    (hW : DataW.Whole enc Try.prog Try.f9.params.toList Rows.threadsSaySpec.vars false W args.toList ds gs before) :
    Calls Try.prog 9 args W fun e W' => ∃ v, e = .returned v ∧ Rows.threadsSaySpec.post enc Try.prog Try.f9 false true false false W args v W' := by
  have hW' := hW
  obtain ⟨p, q, hA, -, -, -, -⟩ := hW
  rw [Try.params9] at hA hval
  obtain ⟨v0, vs0, d0, ds0, p0, q0, hargs0, rfl, rfl, h0, r0⟩ := trodAll_cons hA
  obtain ⟨v1, vs1, d1, ds1, p1, q1, hargs1, rfl, rfl, h1, r1⟩ := trodAll_cons r0
  obtain ⟨v2, vs2, d2, ds2, p2, q2, hargs2, rfl, rfl, h2, r2⟩ := trodAll_cons r1
  obtain ⟨rfl, rfl, rfl⟩ := trodAll_nil r2
  obtain rfl : args = #[v0, v1, v2] := by cases args; simp_all
  obtain ⟨A, n, c, rfl⟩ := okWide_slice Try.underlying22 (hval 0 _ _ rfl rfl)
  obtain ⟨D, k, e, rfl⟩ := okWide_slice Try.underlying76 (hval 1 _ _ rfl rfl)
  obtain ⟨B, m, d, rfl⟩ := okWide_slice Try.underlying22 (hval 2 _ _ rfl rfl)
  obtain ⟨fuel, hf⟩ := h0
  obtain ⟨fuel2, hf2⟩ := h1
  obtain ⟨fuel1, hf1⟩ := h2
  obtain ⟨A', len, cap, Z, hcs, hlen, hlc, hZ⟩ := open_int_list Try.underlying22 Try.underlying3 (by kernel_rfl) hf
  have hcs' : A = A' ∧ n = len ∧ c = cap := by simpa [Value.cells] using hcs
  obtain ⟨rfl, rfl, rfl⟩ := hcs'
  obtain ⟨B', len1, cap1, Z1, hcs1, hlen1, hlc1, hZ1⟩ := open_int_list Try.underlying22 Try.underlying3 (by kernel_rfl) hf1
  have hcs1' : B = B' ∧ m = len1 ∧ d = cap1 := by simpa [Value.cells] using hcs1
  obtain ⟨rfl, rfl, rfl⟩ := hcs1'
  obtain ⟨D', len2, cap2, hd, Z2, hcs2, hlen2, hlc2, hZ2⟩ := open_row_rows Try.underlying76 (by kernel_rfl) Try.underlying151 Try.underlying156 (by kernel_rfl) (by kernel_rfl) Try.underlying3 (by kernel_rfl) hf2
  have hcs2' : D = D' ∧ k = len2 ∧ e = cap2 := by simpa [Value.cells] using hcs2
  obtain ⟨rfl, rfl, rfl⟩ := hcs2'
  have hl : ((List.range n).map fun i => Z i 0).length = n := by simp
  have hl1 : ((List.range m).map fun i => Z1 i 0).length = m := by simp
  have hl2 : ((List.range k).map hd).length = k := by simp
  have hR : RdInt W A ((List.range n).map fun i => Z i 0) := rdE_of_list hZ
  have hR1 : RdInt W B ((List.range m).map fun i => Z1 i 0) := rdE_of_list hZ1
  have hR2 : RdRows Ak.enc 3 W D ((List.range k).map hd) ((List.range k).map fun i => (List.range (hd i).n).map fun q => (⟨Z2 i q 0, Z2 i q 1, Z2 i q 2⟩ : Ak)) :=
    rdRows_of (fun z => (⟨z 0, z 1, z 2⟩ : Ak)) Ak.enc (by decide) (fun z j v hv => by
      match j, hv with
      | 0, hv => exact ⟨by decide, by simpa [Ak.enc] using hv.symm⟩
      | 1, hv => exact ⟨by decide, by simpa [Ak.enc] using hv.symm⟩
      | 2, hv => exact ⟨by decide, by simpa [Ak.enc] using hv.symm⟩
      | j + 3, hv => simp [Ak.enc] at hv) hZ2
  unfold maxLen at hlen hlen1 hlen2
  have hcall : Calls Try.prog 9 #[.slice A n c, .slice D k e, .slice B m d] W fun e W' => e = .returned (.bool true) ∧ Below W.heap.size W W' := by
    have hwl : ((List.range k).map fun i => (List.range (hd i).n).map fun q => (⟨Z2 i q 0, Z2 i q 1, Z2 i q 2⟩ : Ak)).length = k := by simp
    generalize ((List.range n).map fun i => Z i 0) = ts at *
    generalize ((List.range m).map fun i => Z1 i 0) = tu at *
    generalize ((List.range k).map fun i => (List.range (hd i).n).map fun q => (⟨Z2 i q 0, Z2 i q 1, Z2 i q 2⟩ : Ak)) = R at *
    generalize ((List.range k).map hd) = hs at *
    subst hl hl1 hl2
    exact threadsSay_any A D B c e d ts hs R tu W (by omega) (by omega) (by omega) hR hR2 hR1
  refine hcall.mono fun e W' ⟨he, hb⟩ => ⟨_, he, ?_⟩
  exact law_post laidOut (by kernel_rfl) rfl rfl Try.underlying4 hW' (fun _ => by subst_vars; rfl) hb

open Go.ChangeShapes Go.WideShapes Go.ChangeAt Go.Deep in
set_option maxRecDepth 100000 in
theorem threadsSay_lifted (os : Os) (started : os.Started) (H : Type) (enc : TypeId × Value → H) :
    ReturnsInHanded {} Try.checked os 9 .any (Rows.threadsSaySpec.pre6 enc Try.prog Try.f9 Rows.threadsSayRow.domain false) (Rows.threadsSaySpec.post enc Try.prog Try.f9 false true false false) := by
  refine returnsInHanded_of_change (C := Try.checked) own started (by kernel_rfl) Try.func9
    (ChangeSpec.witness6 (enc := enc) (C := Try.checked) false ⟨#[], #[.slice none 0 0, .slice none 0 0, .slice none 0 0], []⟩ 8 (by kernel_rfl) (by kernel_rfl) (by kernel_rfl) (by kernel_rfl)) ?_
  intro W base args ds gs before hval hW _ _
  exact threadsSay_contract H enc W base args ds gs before hval hW
theorem threadsSay_holds : Rows.ThreadsSaySaid :=
  OpenClaim.holds_of_wide 9 Try.f9 rfl rfl rfl rfl rfl rfl rfl ⟨rfl, rfl, rfl, rfl, rfl⟩ rfl rfl rfl rfl rfl (by kernel_rfl) Try.func9 (by kernel_rfl)
    (of_decide_eq_true (by kernel_rfl)) (by unfold Func.isWrapper; first | (rw [if_pos (by decide +kernel)]; kernel_rfl) | (rw [if_neg (by decide +kernel)]; exact ⟨rfl, rfl⟩))
    (fun os started H enc _ => threadsSay_lifted os started H enc)
#print axioms threadsSay_holds
end Go.Proofs.Ytbhjljnbjomnhaa
