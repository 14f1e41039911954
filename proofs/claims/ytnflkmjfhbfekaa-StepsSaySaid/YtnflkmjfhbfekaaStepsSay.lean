/- The law StepsSay: Type and Play answer what the document says. No condition. -/
import Derived.Test.YtnflkmjfhbfekaaG16
import Derived.Test.YtnflkmjfhbfekaaG22
import Derived.Test.YtnflkmjfhbfekaaG30
import Derived.Test.YtnflkmjfhbfekaaG13
set_option linter.unusedSimpArgs false
set_option linter.unusedVariables false
set_option linter.unusedSectionVars false
set_option linter.unnecessarySimpa false
namespace Go.Proofs.Ytnflkmjfhbfekaa
open Go.RowKit

section
variable (algo : Int) (D0 B0 : Option Addr) (e0 d0 : Nat) (hs : List Hd) (ps : List (List Ak)) (tu : List Int) (w : World) (hpl : ps.length ≤ 9223372036854775807) (htl : tu.length ≤ 9223372036854775807) (hD : RdRows Ak.enc 3 w D0 hs ps) (hB : RdInt w B0 tu)
include hpl htl hD hB
set_option maxRecDepth 100000 in
set_option maxHeartbeats 8000000 in
theorem stepsSay_any : Calls Try.prog 3 #[.int .i64 algo, .slice D0 hs.length e0, .slice B0 tu.length d0] w fun e w' => e = .returned (.bool true) ∧ Below w.heap.size w w' := by
  have hlen : hs.length = ps.length := hD.2.1
  have hrows : ∀ {C : Ctx} {w' : World} {S : List Ent}, C.F = [] → C.w0 = w → Mem C w' S → RdRows Ak.enc 3 w' D0 hs ps := fun hF h0 hw =>
    ⟨hw.rd hF (by rw [h0]; exact hD.1), hD.2.1, fun j h1 h2 => ⟨(hD.2.2 j h1 h2).1, (hD.2.2 j h1 h2).2.1, (hD.2.2 j h1 h2).2.2.1, hw.rd hF (by rw [h0]; exact (hD.2.2 j h1 h2).2.2.2)⟩⟩
  have hplay := fun w h1 h2 => stPlay_any algo D0 B0 e0 d0 hs ps tu w hpl htl h1 h2
  have hal := fun w => aType_any algo w
  have hty := fun w => sType_any algo w
  have hpe := fun A w h1 h2 => peopleRight_any A D0 1 e0 [algT algo] hs ps w (by simp) hpl h1 h2
  have htn := fun w h => turnsRight_any (ps.length : Int) B0 d0 tu w htl h (by omega)
  have hby := fun w h1 h2 hp ht => byStep_any algo D0 B0 e0 d0 hs ps tu w hpl htl h1 h2 hp ht
  have hrl : pplR [algT algo] ps = 0 → trnR (ps.length : Int) 300 tu = 0 → (runS2 algo ps tu tu.length).evs.length ≤ 300 := fun h0 h1 => by
    obtain ⟨_, h8, hps⟩ := pplR_ok h0
    obtain ⟨ht3, htu⟩ := trnR_ok h1
    have := (runS2_ok hps htu tu.length (Nat.le_refl _)).e
    omega
  unfold PlayPost2 plS at hplay
  rw [← hlen] at htn hplay hby hrl
  clear hpl
  by_cases hT : algT algo = 0
  · rw [if_pos hT] at hplay
    rw [hT] at hal hty
    have hpl := hplay
    clear hplay hpe htn hby hrl
    obtain ⟨RE, hRE⟩ : ∃ l : List Ev, l = [] := ⟨_, rfl⟩
    obtain ⟨RZ, hRZ⟩ : ∃ z : Int, z = 1 := ⟨1, rfl⟩
    obtain ⟨RN, hRN⟩ : ∃ z : Int, z = 0 := ⟨0, rfl⟩
    rw [← hRE, ← hRZ, ← hRN] at hpl
    dsimp only at hpl
    refine calls_T (S := []) [] Try.func3 rfl Try.ntmps3 (by simp) (Mem.nil _) ?_
    repeat' (first | (refine GO ?_) | (refine GOE ?_; (first | (rintro _ _ ⟨rfl, rfl⟩) | (rintro _ _ ⟨g, rfl, rfl⟩) | (rintro _ _ ⟨A', c', rfl, rfl⟩))) | ((refine GO2 ?_ ?_) <;> intro h <;> (try (repeat (first | with_reducible (replace h := of_decide_eq_true h) | with_reducible (replace h := of_decide_eq_false h) | with_reducible (replace h := bnt h) | with_reducible (replace h := bnf h) | with_reducible (replace h := Int.not_lt.mp h) | with_reducible (replace h := Int.not_le.mp h) | with_reducible (replace h := band_dec h) | with_reducible (replace h := band_decF h) | with_reducible (replace h := bor_dec h) | with_reducible (replace h := bor_decF h)))) <;> (try (exfalso; first | contradiction | omega))) | ((with_reducible (first | apply TD_e2z | apply TD_e3z | apply TL_e | apply TD_e2 | apply TD_e3)); ((with_reducible apply ES_callNew (f := 7) (v := (fun x : Option Addr × Nat => .tuple #[.slice x.1 RE.length x.2, .int .i64 RN, .int .i64 RZ])) (S1 := (fun x : Option Addr × Nat => [entOwn Ev.enc 4 35 x.1 x.2 RE]))); exact rfl; (intro x; (try dsimp only); repeat (first | exact AppL.nil _ | apply AppL.cons)); (intro w hw; exact hpl w (hrows rfl rfl hw) (hw.rd rfl hB)); exact rfl); (first | exact rfl | exact ⟨rfl, rfl, rfl⟩); (rintro _ _ ⟨⟨A1, c1⟩, rfl, rfl⟩); (try refine ⟨SUB, ?_⟩)) | ((with_reducible (first | apply TD_e2z | apply TD_e3z | apply TL_e | apply TD_e2 | apply TD_e3)); ((with_reducible apply ES_callV (f := 8)); exact rfl; (intro w hw; exact hal w); exact rfl); (first | exact rfl | exact ⟨rfl, rfl, rfl⟩); (rintro _ _ ⟨rfl, rfl⟩); (try refine ⟨SUB, ?_⟩)) | ((with_reducible (first | apply TD_e2z | apply TD_e3z | apply TL_e | apply TD_e2 | apply TD_e3)); ((with_reducible apply ES_callV (f := 11)); exact rfl; (intro w hw; exact hty w); exact rfl); (first | exact rfl | exact ⟨rfl, rfl, rfl⟩); (rintro _ _ ⟨rfl, rfl⟩); (try refine ⟨SUB, ?_⟩)) | fail)
    all_goals first
      | (exfalso; omega)
      | (exfalso; simp_all; done)
      | ((refine At_ret Try.results3 rfl (fun w' hw => ?_)); exact ⟨by simp [resVal, hRE, hRZ, hRN], hw.below0 rfl⟩)
  rw [if_neg hT] at hplay
  obtain ⟨TT, hTT⟩ : ∃ t, algT algo = t := ⟨_, rfl⟩
  rw [hTT] at hplay hal hty hpe hby hT hrl
  by_cases hP : pplR [TT] ps = 0
  · rw [if_neg (by simp [hP])] at hplay
    rw [hP] at hpe
    by_cases hN : trnR (hs.length : Int) 300 tu = 0
    · rw [if_neg (by simp [hN])] at hplay
      have hpl := hplay
      have hby := fun w h1 h2 => hby w h1 h2 hP hN
      have h3 := hrl hP hN
      rw [hN] at htn
      clear hplay hrl
      generalize runS2 algo ps tu tu.length = RR at *
      obtain ⟨RM, pe, RE⟩ := RR
      dsimp only at hpl hby h3
      generalize ((RM.anew : Nat) : Int) = RN at *
      have heq := fun A B c d w' h1 h2 => equalEv_any A B c d RE RE w' (by omega) (by omega) h1 h2
      obtain ⟨RZ, hRZ⟩ : ∃ z : Int, z = 0 := ⟨0, rfl⟩
      rw [← hRZ] at hpl
      refine calls_T (S := []) [] Try.func3 rfl Try.ntmps3 (by simp) (Mem.nil _) ?_
      repeat' (first | (refine GO ?_) | (refine GOE ?_; (first | (rintro _ _ ⟨rfl, rfl⟩) | (rintro _ _ ⟨g, rfl, rfl⟩) | (rintro _ _ ⟨A', c', rfl, rfl⟩))) | ((refine GO2 ?_ ?_) <;> intro h <;> (try (repeat (first | with_reducible (replace h := of_decide_eq_true h) | with_reducible (replace h := of_decide_eq_false h) | with_reducible (replace h := bnt h) | with_reducible (replace h := bnf h) | with_reducible (replace h := Int.not_lt.mp h) | with_reducible (replace h := Int.not_le.mp h) | with_reducible (replace h := band_dec h) | with_reducible (replace h := band_decF h) | with_reducible (replace h := bor_dec h) | with_reducible (replace h := bor_decF h)))) <;> (try (exfalso; first | contradiction | omega))) | ((with_reducible (first | apply TD_e2z | apply TD_e3z | apply TL_e | apply TD_e2 | apply TD_e3)); ((with_reducible apply ES_callNew (f := 7) (v := (fun x : Option Addr × Nat => .tuple #[.slice x.1 RE.length x.2, .int .i64 RN, .int .i64 RZ])) (S1 := (fun x : Option Addr × Nat => [entOwn Ev.enc 4 35 x.1 x.2 RE]))); exact rfl; (intro x; (try dsimp only); repeat (first | exact AppL.nil _ | apply AppL.cons)); (intro w hw; exact hpl w (hrows rfl rfl hw) (hw.rd rfl hB)); exact rfl); (first | exact rfl | exact ⟨rfl, rfl, rfl⟩); (rintro _ _ ⟨⟨A1, c1⟩, rfl, rfl⟩); (try refine ⟨SUB, ?_⟩)) | ((with_reducible (first | apply TD_e2z | apply TD_e3z | apply TL_e | apply TD_e2 | apply TD_e3)); ((with_reducible apply ES_callV (f := 8)); exact rfl; (intro w hw; exact hal w); exact rfl); (first | exact rfl | exact ⟨rfl, rfl, rfl⟩); (rintro _ _ ⟨rfl, rfl⟩); (try refine ⟨SUB, ?_⟩)) | ((with_reducible (first | apply TD_e2z | apply TD_e3z | apply TL_e | apply TD_e2 | apply TD_e3)); ((with_reducible apply ES_callV (f := 11)); exact rfl; (intro w hw; exact hty w); exact rfl); (first | exact rfl | exact ⟨rfl, rfl, rfl⟩); (rintro _ _ ⟨rfl, rfl⟩); (try refine ⟨SUB, ?_⟩)) | fail)
      all_goals first | (exfalso; omega) | (exfalso; simp_all; done) | skip
      (refine TL_mem (S' := [entOwn intEnc 1 3 (some ⟨g, 0, none⟩) 1 [TT], entOwn Ev.enc 4 35 A1 c1 RE]) (fun w hw => Mem.asOwn (enc := intEnc) (M := 1) [TT] (by first | ((repeat (first | with_reducible exact Upd.here _ _ _ | with_reducible apply Upd.there)); done) | (repeat (first | exact Upd.here _ _ _ | apply Upd.there))) rfl (fun _ => rfl) (by simp only [List.length_cons, List.length_nil]; decide) hw) ?_)
      repeat' (first | (refine GO ?_) | (refine GOE ?_; (first | (rintro _ _ ⟨rfl, rfl⟩) | (rintro _ _ ⟨g, rfl, rfl⟩) | (rintro _ _ ⟨A', c', rfl, rfl⟩))) | ((refine GO2 ?_ ?_) <;> intro h <;> (try (repeat (first | with_reducible (replace h := of_decide_eq_true h) | with_reducible (replace h := of_decide_eq_false h) | with_reducible (replace h := bnt h) | with_reducible (replace h := bnf h) | with_reducible (replace h := Int.not_lt.mp h) | with_reducible (replace h := Int.not_le.mp h) | with_reducible (replace h := band_dec h) | with_reducible (replace h := band_decF h) | with_reducible (replace h := bor_dec h) | with_reducible (replace h := bor_decF h)))) <;> (try (exfalso; first | contradiction | omega))) | ((with_reducible (first | apply TD_e2z | apply TD_e3z | apply TL_e | apply TD_e2 | apply TD_e3)); ((with_reducible apply ES_callV (f := 9)); exact rfl; (intro w hw; exact hpe _ w (hw.ownRd (enc := intEnc) (M := 1) (by first | ((repeat (first | with_reducible exact List.mem_cons_self | with_reducible apply List.mem_cons_of_mem)); done) | (repeat (first | exact List.Mem.head _ | apply List.Mem.tail))) (fun _ => rfl)) (hrows rfl rfl hw)); exact rfl); (first | exact rfl | exact ⟨rfl, rfl, rfl⟩); (rintro _ _ ⟨rfl, rfl⟩); (try refine ⟨SUB, ?_⟩)) | ((with_reducible (first | apply TD_e2z | apply TD_e3z | apply TL_e | apply TD_e2 | apply TD_e3)); ((with_reducible apply ES_callV (f := 11)); exact rfl; (intro w hw; exact hty w); exact rfl); (first | exact rfl | exact ⟨rfl, rfl, rfl⟩); (rintro _ _ ⟨rfl, rfl⟩); (try refine ⟨SUB, ?_⟩)) | ((with_reducible (first | apply TD_e2z | apply TD_e3z | apply TL_e | apply TD_e2 | apply TD_e3)); ((with_reducible apply ES_callV (f := 10)); exact rfl; (intro w hw; exact htn w (hw.rd rfl hB)); exact rfl); (first | exact rfl | exact ⟨rfl, rfl, rfl⟩); (rintro _ _ ⟨rfl, rfl⟩); (try refine ⟨SUB, ?_⟩)) | ((with_reducible (first | apply TD_e2z | apply TD_e3z | apply TL_e | apply TD_e2 | apply TD_e3)); ((with_reducible apply ES_callNew (f := 12) (v := (fun x : Option Addr × Nat => .tuple #[.slice x.1 RE.length x.2, .int .i64 RN])) (S1 := (fun x : Option Addr × Nat => [entOwn Ev.enc 4 35 x.1 x.2 RE]))); exact rfl; (intro x; (try dsimp only); repeat (first | exact AppL.nil _ | apply AppL.cons)); (intro w hw; exact hby w (hrows rfl rfl hw) (hw.rd rfl hB)); exact rfl); (first | exact rfl | exact ⟨rfl, rfl, rfl⟩); (rintro _ _ ⟨⟨A2, c2⟩, rfl, rfl⟩); (try refine ⟨SUB, ?_⟩)) | ((with_reducible (first | apply TD_e2z | apply TD_e3z | apply TL_e | apply TD_e2 | apply TD_e3)); ((with_reducible apply ES_callV (f := 13)); exact rfl; (intro w hw; exact heq A1 A2 c1 c2 w (hw.ownRd (by first | ((repeat (first | with_reducible exact List.mem_cons_self | with_reducible apply List.mem_cons_of_mem)); done) | (repeat (first | exact List.Mem.head _ | apply List.Mem.tail))) (fun _ => rfl)) (hw.ownRd (by first | ((repeat (first | with_reducible exact List.mem_cons_self | with_reducible apply List.mem_cons_of_mem)); done) | (repeat (first | exact List.Mem.head _ | apply List.Mem.tail))) (fun _ => rfl))); exact rfl); (first | exact rfl | exact ⟨rfl, rfl, rfl⟩); (rintro _ _ ⟨rfl, rfl⟩); (try refine ⟨SUB, ?_⟩)) | fail)
      all_goals first
        | (exfalso; omega)
        | (exfalso; simp_all; done)
        | ((refine At_ret Try.results3 rfl (fun w' hw => ?_)); exact ⟨by simp [resVal, hRZ], hw.below0 rfl⟩)
    · rw [if_pos (by simp [hN])] at hplay
      have hpl := hplay
      clear hplay hby hrl
      generalize trnR (hs.length : Int) 300 tu = RZ at *
      obtain ⟨RE, hRE⟩ : ∃ l : List Ev, l = [] := ⟨_, rfl⟩
      obtain ⟨RN, hRN⟩ : ∃ z : Int, z = 0 := ⟨0, rfl⟩
      rw [← hRE, ← hRN] at hpl
      dsimp only at hpl
      refine calls_T (S := []) [] Try.func3 rfl Try.ntmps3 (by simp) (Mem.nil _) ?_
      repeat' (first | (refine GO ?_) | (refine GOE ?_; (first | (rintro _ _ ⟨rfl, rfl⟩) | (rintro _ _ ⟨g, rfl, rfl⟩) | (rintro _ _ ⟨A', c', rfl, rfl⟩))) | ((refine GO2 ?_ ?_) <;> intro h <;> (try (repeat (first | with_reducible (replace h := of_decide_eq_true h) | with_reducible (replace h := of_decide_eq_false h) | with_reducible (replace h := bnt h) | with_reducible (replace h := bnf h) | with_reducible (replace h := Int.not_lt.mp h) | with_reducible (replace h := Int.not_le.mp h) | with_reducible (replace h := band_dec h) | with_reducible (replace h := band_decF h) | with_reducible (replace h := bor_dec h) | with_reducible (replace h := bor_decF h)))) <;> (try (exfalso; first | contradiction | omega))) | ((with_reducible (first | apply TD_e2z | apply TD_e3z | apply TL_e | apply TD_e2 | apply TD_e3)); ((with_reducible apply ES_callNew (f := 7) (v := (fun x : Option Addr × Nat => .tuple #[.slice x.1 RE.length x.2, .int .i64 RN, .int .i64 RZ])) (S1 := (fun x : Option Addr × Nat => [entOwn Ev.enc 4 35 x.1 x.2 RE]))); exact rfl; (intro x; (try dsimp only); repeat (first | exact AppL.nil _ | apply AppL.cons)); (intro w hw; exact hpl w (hrows rfl rfl hw) (hw.rd rfl hB)); exact rfl); (first | exact rfl | exact ⟨rfl, rfl, rfl⟩); (rintro _ _ ⟨⟨A1, c1⟩, rfl, rfl⟩); (try refine ⟨SUB, ?_⟩)) | ((with_reducible (first | apply TD_e2z | apply TD_e3z | apply TL_e | apply TD_e2 | apply TD_e3)); ((with_reducible apply ES_callV (f := 8)); exact rfl; (intro w hw; exact hal w); exact rfl); (first | exact rfl | exact ⟨rfl, rfl, rfl⟩); (rintro _ _ ⟨rfl, rfl⟩); (try refine ⟨SUB, ?_⟩)) | ((with_reducible (first | apply TD_e2z | apply TD_e3z | apply TL_e | apply TD_e2 | apply TD_e3)); ((with_reducible apply ES_callV (f := 11)); exact rfl; (intro w hw; exact hty w); exact rfl); (first | exact rfl | exact ⟨rfl, rfl, rfl⟩); (rintro _ _ ⟨rfl, rfl⟩); (try refine ⟨SUB, ?_⟩)) | fail)
      all_goals first | (exfalso; omega) | (exfalso; simp_all; done) | skip
      (refine TL_mem (S' := [entOwn intEnc 1 3 (some ⟨g, 0, none⟩) 1 [TT], entOwn Ev.enc 4 35 A1 c1 RE]) (fun w hw => Mem.asOwn (enc := intEnc) (M := 1) [TT] (by first | ((repeat (first | with_reducible exact Upd.here _ _ _ | with_reducible apply Upd.there)); done) | (repeat (first | exact Upd.here _ _ _ | apply Upd.there))) rfl (fun _ => rfl) (by simp only [List.length_cons, List.length_nil]; decide) hw) ?_)
      repeat' (first | (refine GO ?_) | (refine GOE ?_; (first | (rintro _ _ ⟨rfl, rfl⟩) | (rintro _ _ ⟨g, rfl, rfl⟩) | (rintro _ _ ⟨A', c', rfl, rfl⟩))) | ((refine GO2 ?_ ?_) <;> intro h <;> (try (repeat (first | with_reducible (replace h := of_decide_eq_true h) | with_reducible (replace h := of_decide_eq_false h) | with_reducible (replace h := bnt h) | with_reducible (replace h := bnf h) | with_reducible (replace h := Int.not_lt.mp h) | with_reducible (replace h := Int.not_le.mp h) | with_reducible (replace h := band_dec h) | with_reducible (replace h := band_decF h) | with_reducible (replace h := bor_dec h) | with_reducible (replace h := bor_decF h)))) <;> (try (exfalso; first | contradiction | omega))) | ((with_reducible (first | apply TD_e2z | apply TD_e3z | apply TL_e | apply TD_e2 | apply TD_e3)); ((with_reducible apply ES_callV (f := 9)); exact rfl; (intro w hw; exact hpe _ w (hw.ownRd (enc := intEnc) (M := 1) (by first | ((repeat (first | with_reducible exact List.mem_cons_self | with_reducible apply List.mem_cons_of_mem)); done) | (repeat (first | exact List.Mem.head _ | apply List.Mem.tail))) (fun _ => rfl)) (hrows rfl rfl hw)); exact rfl); (first | exact rfl | exact ⟨rfl, rfl, rfl⟩); (rintro _ _ ⟨rfl, rfl⟩); (try refine ⟨SUB, ?_⟩)) | ((with_reducible (first | apply TD_e2z | apply TD_e3z | apply TL_e | apply TD_e2 | apply TD_e3)); ((with_reducible apply ES_callV (f := 11)); exact rfl; (intro w hw; exact hty w); exact rfl); (first | exact rfl | exact ⟨rfl, rfl, rfl⟩); (rintro _ _ ⟨rfl, rfl⟩); (try refine ⟨SUB, ?_⟩)) | ((with_reducible (first | apply TD_e2z | apply TD_e3z | apply TL_e | apply TD_e2 | apply TD_e3)); ((with_reducible apply ES_callV (f := 10)); exact rfl; (intro w hw; exact htn w (hw.rd rfl hB)); exact rfl); (first | exact rfl | exact ⟨rfl, rfl, rfl⟩); (rintro _ _ ⟨rfl, rfl⟩); (try refine ⟨SUB, ?_⟩)) | fail)
      all_goals first
        | (exfalso; omega)
        | (exfalso; simp_all; done)
        | ((refine At_ret Try.results3 rfl (fun w' hw => ?_)); exact ⟨by simp [resVal, hRE, hRN], hw.below0 rfl⟩)
  · rw [if_pos hP] at hplay
    have hpl := hplay
    clear hplay htn hby hrl
    generalize pplR [TT] ps = RZ at *
    obtain ⟨RE, hRE⟩ : ∃ l : List Ev, l = [] := ⟨_, rfl⟩
    obtain ⟨RN, hRN⟩ : ∃ z : Int, z = 0 := ⟨0, rfl⟩
    rw [← hRE, ← hRN] at hpl
    dsimp only at hpl
    refine calls_T (S := []) [] Try.func3 rfl Try.ntmps3 (by simp) (Mem.nil _) ?_
    repeat' (first | (refine GO ?_) | (refine GOE ?_; (first | (rintro _ _ ⟨rfl, rfl⟩) | (rintro _ _ ⟨g, rfl, rfl⟩) | (rintro _ _ ⟨A', c', rfl, rfl⟩))) | ((refine GO2 ?_ ?_) <;> intro h <;> (try (repeat (first | with_reducible (replace h := of_decide_eq_true h) | with_reducible (replace h := of_decide_eq_false h) | with_reducible (replace h := bnt h) | with_reducible (replace h := bnf h) | with_reducible (replace h := Int.not_lt.mp h) | with_reducible (replace h := Int.not_le.mp h) | with_reducible (replace h := band_dec h) | with_reducible (replace h := band_decF h) | with_reducible (replace h := bor_dec h) | with_reducible (replace h := bor_decF h)))) <;> (try (exfalso; first | contradiction | omega))) | ((with_reducible (first | apply TD_e2z | apply TD_e3z | apply TL_e | apply TD_e2 | apply TD_e3)); ((with_reducible apply ES_callNew (f := 7) (v := (fun x : Option Addr × Nat => .tuple #[.slice x.1 RE.length x.2, .int .i64 RN, .int .i64 RZ])) (S1 := (fun x : Option Addr × Nat => [entOwn Ev.enc 4 35 x.1 x.2 RE]))); exact rfl; (intro x; (try dsimp only); repeat (first | exact AppL.nil _ | apply AppL.cons)); (intro w hw; exact hpl w (hrows rfl rfl hw) (hw.rd rfl hB)); exact rfl); (first | exact rfl | exact ⟨rfl, rfl, rfl⟩); (rintro _ _ ⟨⟨A1, c1⟩, rfl, rfl⟩); (try refine ⟨SUB, ?_⟩)) | ((with_reducible (first | apply TD_e2z | apply TD_e3z | apply TL_e | apply TD_e2 | apply TD_e3)); ((with_reducible apply ES_callV (f := 8)); exact rfl; (intro w hw; exact hal w); exact rfl); (first | exact rfl | exact ⟨rfl, rfl, rfl⟩); (rintro _ _ ⟨rfl, rfl⟩); (try refine ⟨SUB, ?_⟩)) | ((with_reducible (first | apply TD_e2z | apply TD_e3z | apply TL_e | apply TD_e2 | apply TD_e3)); ((with_reducible apply ES_callV (f := 11)); exact rfl; (intro w hw; exact hty w); exact rfl); (first | exact rfl | exact ⟨rfl, rfl, rfl⟩); (rintro _ _ ⟨rfl, rfl⟩); (try refine ⟨SUB, ?_⟩)) | fail)
    all_goals first | (exfalso; omega) | (exfalso; simp_all; done) | skip
    (refine TL_mem (S' := [entOwn intEnc 1 3 (some ⟨g, 0, none⟩) 1 [TT], entOwn Ev.enc 4 35 A1 c1 RE]) (fun w hw => Mem.asOwn (enc := intEnc) (M := 1) [TT] (by first | ((repeat (first | with_reducible exact Upd.here _ _ _ | with_reducible apply Upd.there)); done) | (repeat (first | exact Upd.here _ _ _ | apply Upd.there))) rfl (fun _ => rfl) (by simp only [List.length_cons, List.length_nil]; decide) hw) ?_)
    repeat' (first | (refine GO ?_) | (refine GOE ?_; (first | (rintro _ _ ⟨rfl, rfl⟩) | (rintro _ _ ⟨g, rfl, rfl⟩) | (rintro _ _ ⟨A', c', rfl, rfl⟩))) | ((refine GO2 ?_ ?_) <;> intro h <;> (try (repeat (first | with_reducible (replace h := of_decide_eq_true h) | with_reducible (replace h := of_decide_eq_false h) | with_reducible (replace h := bnt h) | with_reducible (replace h := bnf h) | with_reducible (replace h := Int.not_lt.mp h) | with_reducible (replace h := Int.not_le.mp h) | with_reducible (replace h := band_dec h) | with_reducible (replace h := band_decF h) | with_reducible (replace h := bor_dec h) | with_reducible (replace h := bor_decF h)))) <;> (try (exfalso; first | contradiction | omega))) | ((with_reducible (first | apply TD_e2z | apply TD_e3z | apply TL_e | apply TD_e2 | apply TD_e3)); ((with_reducible apply ES_callV (f := 9)); exact rfl; (intro w hw; exact hpe _ w (hw.ownRd (enc := intEnc) (M := 1) (by first | ((repeat (first | with_reducible exact List.mem_cons_self | with_reducible apply List.mem_cons_of_mem)); done) | (repeat (first | exact List.Mem.head _ | apply List.Mem.tail))) (fun _ => rfl)) (hrows rfl rfl hw)); exact rfl); (first | exact rfl | exact ⟨rfl, rfl, rfl⟩); (rintro _ _ ⟨rfl, rfl⟩); (try refine ⟨SUB, ?_⟩)) | ((with_reducible (first | apply TD_e2z | apply TD_e3z | apply TL_e | apply TD_e2 | apply TD_e3)); ((with_reducible apply ES_callV (f := 11)); exact rfl; (intro w hw; exact hty w); exact rfl); (first | exact rfl | exact ⟨rfl, rfl, rfl⟩); (rintro _ _ ⟨rfl, rfl⟩); (try refine ⟨SUB, ?_⟩)) | fail)
    all_goals first
      | (exfalso; omega)
      | (exfalso; simp_all; done)
      | ((refine At_ret Try.results3 rfl (fun w' hw => ?_)); exact ⟨by simp [resVal, hRE, hRN], hw.below0 rfl⟩)
end

open Go.ChangeShapes Go.WideShapes Go.ChangeAt Go.Deep in
set_option maxRecDepth 100000 in
theorem stepsSay_contract (H : Type) (enc : TypeId × Value → H) (W : World) (base : Nat) (args : Array Value) (ds gs : List (DataW H)) (before : List MemPlace)
    (hval : ∀ (j : Nat) t v, Try.f3.params[j]? = some t → args[j]? = some v → Value.okWide Try.prog W .any base t v)
    (hW : DataW.Whole enc Try.prog Try.f3.params.toList Rows.stepsSaySpec.vars false W args.toList ds gs before) :
    Calls Try.prog 3 args W fun e W' => ∃ v, e = .returned v ∧ Rows.stepsSaySpec.post enc Try.prog Try.f3 false true false false W args v W' := by
  have hW' := hW
  obtain ⟨p, q, hA, -, -, -, -⟩ := hW
  rw [Try.params3] at hA hval
  obtain ⟨v0, vs0, d0, ds0, p0, q0, hargs0, rfl, rfl, h0, r0⟩ := trodAll_cons hA
  obtain ⟨v1, vs1, d1, ds1, p1, q1, hargs1, rfl, rfl, h1, r1⟩ := trodAll_cons r0
  obtain ⟨v2, vs2, d2, ds2, p2, q2, hargs2, rfl, rfl, h2, r2⟩ := trodAll_cons r1
  obtain ⟨rfl, rfl, rfl⟩ := trodAll_nil r2
  obtain rfl : args = #[v0, v1, v2] := by cases args; simp_all
  obtain ⟨algo, rfl⟩ := okWide_int Try.underlying3 (hval 0 _ _ rfl rfl)
  obtain ⟨D, k, e, rfl⟩ := okWide_slice Try.underlying22 (hval 1 _ _ rfl rfl)
  obtain ⟨B, m, d, rfl⟩ := okWide_slice Try.underlying23 (hval 2 _ _ rfl rfl)
  obtain ⟨fuel2, hf2⟩ := h1
  obtain ⟨fuel1, hf1⟩ := h2
  obtain ⟨B', len1, cap1, Z1, hcs1, hlen1, hlc1, hZ1⟩ := open_int_list Try.underlying23 Try.underlying3 (by kernel_rfl) hf1
  have hcs1' : B = B' ∧ m = len1 ∧ d = cap1 := by simpa [Value.cells] using hcs1
  obtain ⟨rfl, rfl, rfl⟩ := hcs1'
  obtain ⟨D', len2, cap2, hd, Z2, hcs2, hlen2, hlc2, hZ2⟩ := open_row_rows Try.underlying22 (by kernel_rfl) Try.underlying91 Try.underlying96 (by kernel_rfl) (by kernel_rfl) Try.underlying3 (by kernel_rfl) hf2
  have hcs2' : D = D' ∧ k = len2 ∧ e = cap2 := by simpa [Value.cells] using hcs2
  obtain ⟨rfl, rfl, rfl⟩ := hcs2'
  have hl1 : ((List.range m).map fun i => Z1 i 0).length = m := by simp
  have hl2 : ((List.range k).map hd).length = k := by simp
  have hR1 : RdInt W B ((List.range m).map fun i => Z1 i 0) := rdE_of_list hZ1
  have hR2 : RdRows Ak.enc 3 W D ((List.range k).map hd) ((List.range k).map fun i => (List.range (hd i).n).map fun q => (⟨Z2 i q 0, Z2 i q 1, Z2 i q 2⟩ : Ak)) :=
    rdRows_of (fun z => (⟨z 0, z 1, z 2⟩ : Ak)) Ak.enc (by decide) (fun z j v hv => by
      match j, hv with
      | 0, hv => exact ⟨by decide, by simpa [Ak.enc] using hv.symm⟩
      | 1, hv => exact ⟨by decide, by simpa [Ak.enc] using hv.symm⟩
      | 2, hv => exact ⟨by decide, by simpa [Ak.enc] using hv.symm⟩
      | j + 3, hv => simp [Ak.enc] at hv) hZ2
  unfold maxLen at hlen1 hlen2
  have hcall : Calls Try.prog 3 #[.int .i64 algo, .slice D k e, .slice B m d] W fun e W' => e = .returned (.bool true) ∧ Below W.heap.size W W' := by
    have hwl : ((List.range k).map fun i => (List.range (hd i).n).map fun q => (⟨Z2 i q 0, Z2 i q 1, Z2 i q 2⟩ : Ak)).length = k := by simp
    generalize ((List.range m).map fun i => Z1 i 0) = tu at *
    generalize ((List.range k).map fun i => (List.range (hd i).n).map fun q => (⟨Z2 i q 0, Z2 i q 1, Z2 i q 2⟩ : Ak)) = R at *
    generalize ((List.range k).map hd) = hs at *
    subst hl1 hl2
    exact stepsSay_any algo D B e d hs R tu W (by omega) (by omega) hR2 hR1
  refine hcall.mono fun e W' ⟨he, hb⟩ => ⟨_, he, ?_⟩
  exact law_post laidOut (by kernel_rfl) rfl rfl Try.underlying4 hW' (fun _ => by subst_vars; rfl) hb

open Go.ChangeShapes Go.WideShapes Go.ChangeAt Go.Deep in
set_option maxRecDepth 100000 in
theorem stepsSay_lifted (os : Os) (started : os.Started) (H : Type) (enc : TypeId × Value → H) :
    ReturnsInHanded {} Try.checked os 3 .any (Rows.stepsSaySpec.pre6 enc Try.prog Try.f3 Rows.stepsSayRow.domain false) (Rows.stepsSaySpec.post enc Try.prog Try.f3 false true false false) := by
  refine returnsInHanded_of_change (C := Try.checked) own started (by kernel_rfl) Try.func3
    (ChangeSpec.witness6 (enc := enc) (C := Try.checked) false ⟨#[], #[.int .i64 0, .slice none 0 0, .slice none 0 0], []⟩ 8 (by kernel_rfl) (by kernel_rfl) (by kernel_rfl) (by kernel_rfl)) ?_
  intro W base args ds gs before hval hW _ _
  exact stepsSay_contract H enc W base args ds gs before hval hW
theorem stepsSay_holds : Rows.StepsSaySaid :=
  OpenClaim.holds_of_wide 3 Try.f3 rfl rfl rfl rfl rfl rfl rfl ⟨rfl, rfl, rfl, rfl, rfl⟩ rfl rfl rfl rfl rfl (by kernel_rfl) Try.func3 (by kernel_rfl)
    (of_decide_eq_true (by kernel_rfl)) (by unfold Func.isWrapper; first | (rw [if_pos (by decide +kernel)]; kernel_rfl) | (rw [if_neg (by decide +kernel)]; exact ⟨rfl, rfl⟩))
    (fun os started H enc _ => stepsSay_lifted os started H enc)
#print axioms stepsSay_holds
end Go.Proofs.Ytnflkmjfhbfekaa
