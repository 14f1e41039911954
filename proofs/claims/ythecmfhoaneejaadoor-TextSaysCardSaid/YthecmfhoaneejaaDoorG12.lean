/- Lemmas for the walks (TxI, TxF, TxG). No condition. -/
import Derived.Test.YthecmfhoaneejaaDoorG11
import Derived.Test.YthecmfhoaneejaaDoorG07
import Derived.Test.YthecmfhoaneejaaDoorG01
import Derived.Laws.DeepStrings4
set_option linter.unusedSimpArgs false
set_option linter.unusedVariables false
set_option linter.unusedSectionVars false
set_option linter.unnecessarySimpa false
namespace Go.Proofs.YthecmfhoaneejaaDoor
open Go.RowKit Go.Lib
set_option linter.unusedSectionVars false

theorem own_at {w w' : World} {n : Nat} {A : Option Addr} {c : Nat} {ws : List Bs} (h0 : 0 < ws.length) (ho : Own strEnc 1 9 w' w.heap.size (.slice A ws.length c) ws) (hb : Below w.heap.size w w') : ∃ x : Nat × Nat, (Value.slice A ws.length c) = .slice (some ⟨x.1, 0, none⟩) ws.length x.2 ∧ Mem ⟨n, [], w⟩ w' [entOwn strEnc 1 9 (some ⟨x.1, 0, none⟩) x.2 ws] := by
  have hm : Mem ⟨n, [], w⟩ w' [entOwn strEnc 1 9 A c ws] := (Mem.ofOwn hb ho).anyN _
  rcases ho.2 with ⟨he, hz⟩ | ⟨g, cap, cur, hv, _⟩
  · omega
  · cases hv
    exact ⟨(g, c), rfl, hm⟩
theorem typeWords_at (w : World) : Calls Tryd.prog 13 #[] w fun e w' => ∃ x : Nat × Nat, e = .returned (.slice (some ⟨x.1, 0, none⟩) typeW.length x.2) ∧ Mem ⟨0, [], w⟩ w' [entOwn strEnc 1 9 (some ⟨x.1, 0, none⟩) x.2 typeW] := by
  refine (typeWords_any w).mono ?_
  rintro e w' ⟨A, c, rfl, ho, hb⟩
  obtain ⟨x, h1, h2⟩ := own_at (n := 0) (by decide) ho hb
  exact ⟨x, by rw [h1], h2⟩
theorem kindWords_at (w : World) : Calls Tryd.prog 15 #[] w fun e w' => ∃ x : Nat × Nat, e = .returned (.slice (some ⟨x.1, 0, none⟩) kindW.length x.2) ∧ Mem ⟨0, [], w⟩ w' [entOwn strEnc 1 9 (some ⟨x.1, 0, none⟩) x.2 kindW] := by
  refine (kindWords_any w).mono ?_
  rintro e w' ⟨A, c, rfl, ho, hb⟩
  obtain ⟨x, h1, h2⟩ := own_at (n := 0) (by decide) ho hb
  exact ⟨x, by rw [h1], h2⟩
def printR (ts : List Int) (l : List Ev) : Bs := if (callsR ts l).2.2 = 0 then textB ts l else []
section
variable (A B : Option Addr) (ca cl : Nat) (ts : List Int) (l : List Ev) (w : World) (hts : ts.length ≤ 9223372036854775807) (hl : l.length ≤ 9223372036854775807) (hA : RdInt w A ts) (hB : RdEv w B l) (hT : TxW w)
include hts hl hA hB hT
set_option maxRecDepth 100000 in
set_option maxHeartbeats 4000000 in
theorem textPrint_any : Calls Tryd.prog 4 #[.slice A ts.length ca, .slice B l.length cl] w fun e w' => e = .returned (.tuple #[bsv (printR ts l), .int .i64 (callsR ts l).2.2]) ∧ Below w.heap.size w w' := by
  refine calls_T (S := []) [] Tryd.func4 rfl Tryd.ntmps4 (by simp) (Mem.nil _) ?_
  have h1 := fun w h1 h2 => callsCode_any A B ca cl ts l w hts hl h1 h2
  have hok := fun h => evs_ok (ts := ts) (l := l) h
  unfold printR
  obtain ⟨cs, y, z, hcr⟩ : ∃ cs y z, callsR ts l = (cs, y, z) := ⟨_, _, _, rfl⟩
  rw [hcr] at h1 hok ⊢
  dsimp only at h1 hok ⊢
  clear hcr
  by_cases hz : z = 0
  case neg =>
    rw [if_neg hz]
    repeat' (first | ((first | with_reducible (first | apply TL_q | apply TD_q0 | apply TD_q1 | apply TD_q2 | apply TD_q3) | ((with_reducible (first | apply TD_q0y | apply TD_q1y)); exact rfl; exact rfl; (with_reducible exact rfl))); (first | ((with_reducible apply QS_addBs); exact rfl; exact rfl; ((try simp only [List.length_append, List.length_cons, List.length_nil]); omega)) | exact QS.auto); exact rfl) | (refine GG ?_) | (refine GE ?_; (first | (rintro _ _ ⟨rfl, rfl⟩) | (rintro _ _ ⟨g, rfl, rfl⟩) | (rintro _ _ ⟨A', c', rfl, rfl⟩)); (try refine ⟨SUB, ?_⟩)) | ((refine GO2 ?_ ?_) <;> intro h <;> (try (repeat (first | with_reducible (replace h := of_decide_eq_true h) | with_reducible (replace h := of_decide_eq_false h) | with_reducible (replace h := bnt h) | with_reducible (replace h := bnf h) | with_reducible (replace h := Int.not_lt.mp h) | with_reducible (replace h := Int.not_le.mp h) | with_reducible (replace h := band_dec h) | with_reducible (replace h := band_decF h) | with_reducible (replace h := bor_dec h) | with_reducible (replace h := bor_decF h)))) <;> (try (exfalso; first | contradiction | omega))) | (refine GOF ?_ ?_) | ((with_reducible (first | apply TD_e2z | apply TD_e3z | apply TL_e | apply TD_e2 | apply TD_e3)); ((with_reducible apply ES_callOwn (f := 11)); exact rfl; (intro w hw; exact h1 w (hw.rd rfl hA) (hw.rd rfl hB)); exact rfl); (first | exact rfl | exact ⟨rfl, rfl, rfl⟩); (rintro _ _ ⟨A5, c5, rfl, rfl⟩); (try refine ⟨SUB, ?_⟩)) | fail)
    all_goals first | (exfalso; contradiction) | skip
    (refine At_ret Tryd.results4 rfl (fun w' hw => ?_))
    exact ⟨rfl, hw.below0 rfl⟩
  obtain ⟨⟨ht4, htk⟩, hl2, hev⟩ := hok hz
  rw [if_pos hz]
  clear hok
  repeat' (first | ((first | with_reducible (first | apply TL_q | apply TD_q0 | apply TD_q1 | apply TD_q2 | apply TD_q3) | ((with_reducible (first | apply TD_q0y | apply TD_q1y)); exact rfl; exact rfl; (with_reducible exact rfl))); (first | ((with_reducible apply QS_addBs); exact rfl; exact rfl; ((try simp only [List.length_append, List.length_cons, List.length_nil]); omega)) | exact QS.auto); exact rfl) | (refine GG ?_) | (refine GE ?_; (first | (rintro _ _ ⟨rfl, rfl⟩) | (rintro _ _ ⟨g, rfl, rfl⟩) | (rintro _ _ ⟨A', c', rfl, rfl⟩)); (try refine ⟨SUB, ?_⟩)) | ((refine GO2 ?_ ?_) <;> intro h <;> (try (repeat (first | with_reducible (replace h := of_decide_eq_true h) | with_reducible (replace h := of_decide_eq_false h) | with_reducible (replace h := bnt h) | with_reducible (replace h := bnf h) | with_reducible (replace h := Int.not_lt.mp h) | with_reducible (replace h := Int.not_le.mp h) | with_reducible (replace h := band_dec h) | with_reducible (replace h := band_decF h) | with_reducible (replace h := bor_dec h) | with_reducible (replace h := bor_decF h)))) <;> (try (exfalso; first | contradiction | omega))) | (refine GOF ?_ ?_) | ((with_reducible (first | apply TD_e2z | apply TD_e3z | apply TL_e | apply TD_e2 | apply TD_e3)); ((with_reducible apply ES_callOwn (f := 11)); exact rfl; (intro w hw; exact h1 w (hw.rd rfl hA) (hw.rd rfl hB)); exact rfl); (first | exact rfl | exact ⟨rfl, rfl, rfl⟩); (rintro _ _ ⟨A5, c5, rfl, rfl⟩); (try refine ⟨SUB, ?_⟩)) | fail)
  all_goals first | (exfalso; contradiction) | skip
  clear h1
  refine TL_mem (S' := [entBldr 41 5 g none 0 []]) (fun w' hw => bnew_mem (hw.sel (by (repeat (first | exact Sel.nil _ | (apply Sel.cons; (repeat (first | with_reducible exact Pick.here _ _ | with_reducible apply Pick.there)))))))) ?_
  repeat' (first | ((with_reducible (first | apply TD_e2z | apply TD_e3z | apply TL_e | apply TD_e2 | apply TD_e3)); ((with_reducible apply ES_bld (f := 12) (TB := 41) (T8 := 5)); exact rfl; ((repeat (first | exact Pull.nil _ | (apply Pull.cons; (repeat (first | with_reducible exact Pick.here _ _ | with_reducible apply Pick.there)))))); exact rfl; ((repeat (first | exact noB_nil | (apply noB_cons; (first | exact noByte_blk (by decide) | exact noByte_own (by decide)))))); decide; (intro B w h1 h2; exact bwrite_any _ _ (by (try simp only [List.length_append, List.length_cons, List.length_nil]); omega) B _ w h1 h2); exact rfl); (first | exact rfl | exact ⟨rfl, rfl, rfl⟩); (rintro _ _ ⟨⟨Ab, cb⟩, rfl, rfl⟩); (try refine ⟨SUB, ?_⟩)) | ((first | with_reducible (first | apply TL_q | apply TD_q0 | apply TD_q1 | apply TD_q2 | apply TD_q3) | ((with_reducible (first | apply TD_q0y | apply TD_q1y)); exact rfl; exact rfl; (with_reducible exact rfl))); (first | ((with_reducible apply QS_addBs); exact rfl; exact rfl; ((try simp only [List.length_append, List.length_cons, List.length_nil]); omega)) | exact QS.auto); exact rfl) | (refine GG ?_) | (refine GE ?_; (first | (rintro _ _ ⟨rfl, rfl⟩) | (rintro _ _ ⟨g, rfl, rfl⟩) | (rintro _ _ ⟨A', c', rfl, rfl⟩)); (try refine ⟨SUB, ?_⟩)) | ((refine GO2 ?_ ?_) <;> intro h <;> (try (repeat (first | with_reducible (replace h := of_decide_eq_true h) | with_reducible (replace h := of_decide_eq_false h) | with_reducible (replace h := bnt h) | with_reducible (replace h := bnf h) | with_reducible (replace h := Int.not_lt.mp h) | with_reducible (replace h := Int.not_le.mp h) | with_reducible (replace h := band_dec h) | with_reducible (replace h := band_decF h) | with_reducible (replace h := bor_dec h) | with_reducible (replace h := bor_decF h)))) <;> (try (exfalso; first | contradiction | omega))) | (refine GOF ?_ ?_) | fail)
  refine T_loop (X := Nat × Option Addr × Nat) (fun x => [(27, .int .i64 (x.1 : Nat)), (26, .int .i64 ts.length), (25, .slice A ts.length ca), (9, .pointer (some ⟨g, 0, none⟩)), (1, .slice B l.length cl)]) (fun x => [entBldr 41 5 g x.2.1 x.2.2 (thW ++ (ts.take x.1).flatMap tyB)])
    (fun x => x.1 ≤ ts.length) (fun x => ts.length - x.1) (0, Ab, cb) (by (try dsimp only); omega) (by (try dsimp only); (repeat (first | exact SubE.nil _ | refine SubE.cons rfl ?_))) (fun w' hw => by (try dsimp only); rw [show thW ++ (ts.take 0).flatMap tyB = [] ++ [116, 104, 105, 110, 103, 115] from rfl]; exact hw.sel (by (repeat (first | exact Sel.nil _ | (apply Sel.cons; (repeat (first | with_reducible exact Pick.here _ _ | with_reducible apply Pick.there))))))) ?_
  rintro ⟨k, A3, c3⟩ hk
  dsimp only at hk ⊢
  have hlen : (thW ++ (ts.take k).flatMap tyB).length ≤ 40 := by
    have h2 := bflat_len (f := tyB) (m := 7) (l := ts.take k) fun t ht => tyB_len (htk t (List.mem_of_mem_take ht))
    have h3 : (ts.take k).length ≤ 4 := by rw [List.length_take]; omega
    have h4 : thW.length = 6 := rfl
    rw [List.length_append]; omega
  by_cases hkl : k < ts.length
  · have hks : thW ++ (ts.take (k + 1)).flatMap tyB = (thW ++ (ts.take k).flatMap tyB) ++ tyB ts[k] := by rw [bflat_take tyB hkl, List.append_assoc]
    have ht := htk ts[k] (List.getElem_mem _)
    have hwl : typeW.length = 6 := rfl
    have hti : ts[k].toNat < typeW.length := by omega
    have hwl2 := typeW_len (t := ts[k].toNat) (by omega)
    have hwd : typeW.getD ts[k].toNat [] = typeW[ts[k].toNat] := by simp [hti]
    rw [show tyB ts[k] = [32] ++ typeW[ts[k].toNat] by unfold tyB; rw [hwd]; rfl] at hks
    rw [hwd] at hwl2
    clear hwd
    generalize thW ++ (ts.take k).flatMap tyB = K at *
    obtain ⟨b, o, rfl, _⟩ := RdE.open hA (by omega)
    repeat' (first | ((with_reducible (first | apply TD_e2z | apply TD_e3z | apply TL_e | apply TD_e2 | apply TD_e3)); ((with_reducible apply ES_callX (f := 13) (X := Nat × Nat) (S1 := []) (fun x => .slice (some ⟨x.1, 0, none⟩) typeW.length x.2) (fun x => [entOwn strEnc 1 9 (some ⟨x.1, 0, none⟩) x.2 typeW])); exact rfl; ((repeat (first | exact Pull.nil _ | (apply Pull.cons; (repeat (first | with_reducible exact Pick.here _ _ | with_reducible apply Pick.there)))))); (intro x; (try dsimp only); repeat (first | exact AppL.nil _ | apply AppL.cons)); (intro w hw; exact typeWords_at w); exact rfl); (first | exact rfl | exact ⟨rfl, rfl, rfl⟩); (rintro _ _ ⟨⟨gw, cw⟩, rfl, rfl⟩); (try refine ⟨SUB, ?_⟩)) | ((with_reducible (first | apply TD_e2z | apply TD_e3z | apply TL_e | apply TD_e2 | apply TD_e3)); ((with_reducible apply ES_bld (f := 12) (TB := 41) (T8 := 5)); exact rfl; ((repeat (first | exact Pull.nil _ | (apply Pull.cons; (repeat (first | with_reducible exact Pick.here _ _ | with_reducible apply Pick.there)))))); exact rfl; ((repeat (first | exact noB_nil | (apply noB_cons; (first | exact noByte_blk (by decide) | exact noByte_own (by decide)))))); decide; (intro B w h1 h2; exact bwrite_any _ _ (by (try simp only [List.length_append, List.length_cons, List.length_nil]); omega) B _ w h1 h2); exact rfl); (first | exact rfl | exact ⟨rfl, rfl, rfl⟩); (rintro _ _ ⟨⟨Ab, cb⟩, rfl, rfl⟩); (try refine ⟨SUB, ?_⟩)) | ((first | with_reducible (first | apply TL_q | apply TD_q0 | apply TD_q1 | apply TD_q2 | apply TD_q3) | ((with_reducible (first | apply TD_q0y | apply TD_q1y)); exact rfl; exact rfl; (with_reducible exact rfl))); (first | ((with_reducible apply QS_addBs); exact rfl; exact rfl; ((try simp only [List.length_append, List.length_cons, List.length_nil]); omega)) | exact QS.auto); exact rfl) | (refine GG ?_) | (refine GE ?_; (first | (rintro _ _ ⟨rfl, rfl⟩) | (rintro _ _ ⟨g, rfl, rfl⟩) | (rintro _ _ ⟨A', c', rfl, rfl⟩)); (try refine ⟨SUB, ?_⟩)) | ((refine GO2 ?_ ?_) <;> intro h <;> (try (repeat (first | with_reducible (replace h := of_decide_eq_true h) | with_reducible (replace h := of_decide_eq_false h) | with_reducible (replace h := bnt h) | with_reducible (replace h := bnf h) | with_reducible (replace h := Int.not_lt.mp h) | with_reducible (replace h := Int.not_le.mp h) | with_reducible (replace h := band_dec h) | with_reducible (replace h := band_decF h) | with_reducible (replace h := bor_dec h) | with_reducible (replace h := bor_decF h)))) <;> (try (exfalso; first | contradiction | omega))) | (refine GOF ?_ ?_) | fail)
    all_goals
      apply At_rounds (k + 1, Ab, cb)
      (case hE => (try dsimp only); (repeat (first | exact SubE.nil _ | refine SubE.cons rfl ?_)))
      (case hS => (try dsimp only); rw [hks]; exact fun w' hw => hw.sel (by (repeat (first | exact Sel.nil _ | (apply Sel.cons; (repeat (first | with_reducible exact Pick.here _ _ | with_reducible apply Pick.there)))))))
      (case hμ => (try dsimp only); omega)
      (case hp => (try dsimp only); omega)
  · obtain rfl : k = ts.length := by omega
    rw [List.take_length]
    rw [List.take_length] at hlen
    unfold textB
    generalize thW ++ ts.flatMap tyB = K at *
    repeat' (first | ((with_reducible (first | apply TD_e2z | apply TD_e3z | apply TL_e | apply TD_e2 | apply TD_e3)); ((with_reducible apply ES_bld (f := 12) (TB := 41) (T8 := 5)); exact rfl; ((repeat (first | exact Pull.nil _ | (apply Pull.cons; (repeat (first | with_reducible exact Pick.here _ _ | with_reducible apply Pick.there)))))); exact rfl; ((repeat (first | exact noB_nil | (apply noB_cons; (first | exact noByte_blk (by decide) | exact noByte_own (by decide)))))); decide; (intro B w h1 h2; exact bwrite_any _ _ (by (try simp only [List.length_append, List.length_cons, List.length_nil]); omega) B _ w h1 h2); exact rfl); (first | exact rfl | exact ⟨rfl, rfl, rfl⟩); (rintro _ _ ⟨⟨Ab, cb⟩, rfl, rfl⟩); (try refine ⟨SUB, ?_⟩)) | ((first | with_reducible (first | apply TL_q | apply TD_q0 | apply TD_q1 | apply TD_q2 | apply TD_q3) | ((with_reducible (first | apply TD_q0y | apply TD_q1y)); exact rfl; exact rfl; (with_reducible exact rfl))); (first | ((with_reducible apply QS_addBs); exact rfl; exact rfl; ((try simp only [List.length_append, List.length_cons, List.length_nil]); omega)) | exact QS.auto); exact rfl) | (refine GG ?_) | (refine GE ?_; (first | (rintro _ _ ⟨rfl, rfl⟩) | (rintro _ _ ⟨g, rfl, rfl⟩) | (rintro _ _ ⟨A', c', rfl, rfl⟩)); (try refine ⟨SUB, ?_⟩)) | ((refine GO2 ?_ ?_) <;> intro h <;> (try (repeat (first | with_reducible (replace h := of_decide_eq_true h) | with_reducible (replace h := of_decide_eq_false h) | with_reducible (replace h := bnt h) | with_reducible (replace h := bnf h) | with_reducible (replace h := Int.not_lt.mp h) | with_reducible (replace h := Int.not_le.mp h) | with_reducible (replace h := band_dec h) | with_reducible (replace h := band_decF h) | with_reducible (replace h := bor_dec h) | with_reducible (replace h := bor_decF h)))) <;> (try (exfalso; first | contradiction | omega))) | (refine GOF ?_ ?_) | fail)
    all_goals first | (exfalso; omega) | skip
    refine T_loop (X := Nat × Option Addr × Nat) (fun x => [(41, .int .i64 (x.1 : Nat)), (40, .int .i64 l.length), (39, .slice B l.length cl), (9, .pointer (some ⟨g, 0, none⟩))]) (fun x => [entBldr 41 5 g x.2.1 x.2.2 (K ++ [10] ++ (l.take x.1).flatMap evB)])
      (fun x => x.1 ≤ l.length) (fun x => l.length - x.1) (0, Ab, cb) (by (try dsimp only); omega) (by (try dsimp only); (repeat (first | exact SubE.nil _ | refine SubE.cons rfl ?_))) (fun w' hw => by (try dsimp only); rw [show (l.take 0).flatMap evB = [] from rfl, List.append_nil]; exact hw.sel (by (repeat (first | exact Sel.nil _ | (apply Sel.cons; (repeat (first | with_reducible exact Pick.here _ _ | with_reducible apply Pick.there))))))) ?_
    rintro ⟨k, A4, c4⟩ hk
    dsimp only at hk ⊢
    have hlen2 : (K ++ [10] ++ (l.take k).flatMap evB).length ≤ 10000 := by
      have h2 := bflat_len (f := evB) (m := 40) (l := l.take k) fun x hx => evB_len (hev x (List.mem_of_mem_take hx))
      have h3 : (l.take k).length ≤ 200 := by rw [List.length_take]; omega
      rw [List.length_append, List.length_append, List.length_singleton]; omega
    by_cases hkl : k < l.length
    · have hks : K ++ [10] ++ (l.take (k + 1)).flatMap evB = (K ++ [10] ++ (l.take k).flatMap evB) ++ evB l[k] := by rw [bflat_take evB hkl, ← List.append_assoc]
      obtain ⟨e1, e2, e3, e4⟩ := hev l[k] (List.getElem_mem _)
      have hkw : kindW.length = 11 := rfl
      have hti : l[k].kind.toNat < kindW.length := by omega
      have hwl2 := kindW_len (t := l[k].kind.toNat) (by omega)
      have hwd : kindW.getD l[k].kind.toNat [] = kindW[l[k].kind.toNat] := by simp [hti]
      have hn1 := itoa_len8 (n := l[k].who) (by omega)
      have hn2 := itoa_len8 (n := l[k].thing) (by omega)
      have hn3 := itoa_len8 (n := l[k].value) (by omega)
      have hev1 := lineEv_flat l[k]
      rw [show evB l[k] = lineEv l[k] ++ [10] from rfl, hev1] at hks
      rw [hwd] at hwl2 hks
      clear hwd hev1
      generalize K ++ [10] ++ (l.take k).flatMap evB = K2 at *
      obtain ⟨b, o, rfl, _⟩ := RdE.open hB (by omega)
      repeat' (first | ((with_reducible (first | apply TD_e2z | apply TD_e3z | apply TL_e | apply TD_e2 | apply TD_e3)); ((with_reducible apply ES_callV (f := 14)); exact rfl; (intro w hw; exact itoa_any _ w (by omega) (by omega) (hT.carry (hw.below0 rfl))); exact rfl); (first | exact rfl | exact ⟨rfl, rfl, rfl⟩); (rintro _ _ ⟨rfl, rfl⟩); (try refine ⟨SUB, ?_⟩)) | ((with_reducible (first | apply TD_e2z | apply TD_e3z | apply TL_e | apply TD_e2 | apply TD_e3)); ((with_reducible apply ES_callX (f := 15) (X := Nat × Nat) (S1 := []) (fun x => .slice (some ⟨x.1, 0, none⟩) kindW.length x.2) (fun x => [entOwn strEnc 1 9 (some ⟨x.1, 0, none⟩) x.2 kindW])); exact rfl; ((repeat (first | exact Pull.nil _ | (apply Pull.cons; (repeat (first | with_reducible exact Pick.here _ _ | with_reducible apply Pick.there)))))); (intro x; (try dsimp only); repeat (first | exact AppL.nil _ | apply AppL.cons)); (intro w hw; exact kindWords_at w); exact rfl); (first | exact rfl | exact ⟨rfl, rfl, rfl⟩); (rintro _ _ ⟨⟨gw, cw⟩, rfl, rfl⟩); (try refine ⟨SUB, ?_⟩)) | ((with_reducible (first | apply TD_e2z | apply TD_e3z | apply TL_e | apply TD_e2 | apply TD_e3)); ((with_reducible apply ES_callV (f := 16)); exact rfl; (intro w hw; exact bare_any _ w); exact rfl); (first | exact rfl | exact ⟨rfl, rfl, rfl⟩); (rintro _ _ ⟨rfl, rfl⟩); (try refine ⟨SUB, ?_⟩)) | ((with_reducible (first | apply TD_e2z | apply TD_e3z | apply TL_e | apply TD_e2 | apply TD_e3)); ((with_reducible apply ES_bld (f := 12) (TB := 41) (T8 := 5)); exact rfl; ((repeat (first | exact Pull.nil _ | (apply Pull.cons; (repeat (first | with_reducible exact Pick.here _ _ | with_reducible apply Pick.there)))))); exact rfl; ((repeat (first | exact noB_nil | (apply noB_cons; (first | exact noByte_blk (by decide) | exact noByte_own (by decide)))))); decide; (intro B w h1 h2; exact bwrite_any _ _ (by (try simp only [List.length_append, List.length_cons, List.length_nil]); omega) B _ w h1 h2); exact rfl); (first | exact rfl | exact ⟨rfl, rfl, rfl⟩); (rintro _ _ ⟨⟨Ab, cb⟩, rfl, rfl⟩); (try refine ⟨SUB, ?_⟩)) | ((first | with_reducible (first | apply TL_q | apply TD_q0 | apply TD_q1 | apply TD_q2 | apply TD_q3) | ((with_reducible (first | apply TD_q0y | apply TD_q1y)); exact rfl; exact rfl; (with_reducible exact rfl))); (first | ((with_reducible apply QS_addBs); exact rfl; exact rfl; ((try simp only [List.length_append, List.length_cons, List.length_nil]); omega)) | exact QS.auto); exact rfl) | (refine GG ?_) | (refine GE ?_; (first | (rintro _ _ ⟨rfl, rfl⟩) | (rintro _ _ ⟨g, rfl, rfl⟩) | (rintro _ _ ⟨A', c', rfl, rfl⟩)); (try refine ⟨SUB, ?_⟩)) | ((refine GO2 ?_ ?_) <;> intro h <;> (try (repeat (first | with_reducible (replace h := of_decide_eq_true h) | with_reducible (replace h := of_decide_eq_false h) | with_reducible (replace h := bnt h) | with_reducible (replace h := bnf h) | with_reducible (replace h := Int.not_lt.mp h) | with_reducible (replace h := Int.not_le.mp h) | with_reducible (replace h := band_dec h) | with_reducible (replace h := band_decF h) | with_reducible (replace h := bor_dec h) | with_reducible (replace h := bor_decF h)))) <;> (try (exfalso; first | contradiction | omega))) | (refine GOF ?_ ?_) | ((with_reducible apply T_draw (id := 15) 15 (OT.seq [(0, 0), (0, 4), (0, 10), (1, 1), (1, 5), (1, 11), (2, 2), (0, 3), (2, 6), (0, 7), (0, 8), (2, 9), (0, 12), (2, 13), (0, 14), (3, 15)] .nil)); kernel_rfl; exact rfl; kernel_rfl; (repeat (first | with_reducible exact Blind.body | with_reducible apply Blind.seq | with_reducible apply Blind.block))) | fail)
      all_goals
        apply At_rounds (k + 1, Ab, cb)
        (case hE => (try dsimp only); (repeat (first | exact SubE.nil _ | refine SubE.cons rfl ?_)))
        (case hS => (try dsimp only); rw [hks]; first | (rw [if_pos (by assumption)]; simp only [List.append_assoc, List.append_nil]; exact fun w' hw => hw.sel (by (repeat (first | exact Sel.nil _ | (apply Sel.cons; (repeat (first | with_reducible exact Pick.here _ _ | with_reducible apply Pick.there))))))) | (rw [if_neg (by rw [show bareB l[k].kind = false by assumption]; decide)]; simp only [List.append_assoc]; exact fun w' hw => hw.sel (by (repeat (first | exact Sel.nil _ | (apply Sel.cons; (repeat (first | with_reducible exact Pick.here _ _ | with_reducible apply Pick.there))))))))
        (case hμ => (try dsimp only); omega)
        (case hp => (try dsimp only); omega)
    · obtain rfl : k = l.length := by omega
      rw [List.take_length]
      repeat' (first | ((with_reducible (first | apply TD_e2z | apply TD_e3z | apply TL_e | apply TD_e2 | apply TD_e3)); ((with_reducible apply ES_bld (f := 17) (TB := 41) (T8 := 5)); exact rfl; ((repeat (first | exact Pull.nil _ | (apply Pull.cons; (repeat (first | with_reducible exact Pick.here _ _ | with_reducible apply Pick.there)))))); exact rfl; ((repeat (first | exact noB_nil | (apply noB_cons; (first | exact noByte_blk (by decide) | exact noByte_own (by decide)))))); decide; (intro B w h1 h2; exact bstring_any _ (by simp) B _ w h1 h2); exact rfl); (first | exact rfl | exact ⟨rfl, rfl, rfl⟩); (rintro _ _ ⟨⟨Ab, cb⟩, rfl, rfl⟩); (try refine ⟨SUB, ?_⟩)) | ((first | with_reducible (first | apply TL_q | apply TD_q0 | apply TD_q1 | apply TD_q2 | apply TD_q3) | ((with_reducible (first | apply TD_q0y | apply TD_q1y)); exact rfl; exact rfl; (with_reducible exact rfl))); (first | ((with_reducible apply QS_addBs); exact rfl; exact rfl; ((try simp only [List.length_append, List.length_cons, List.length_nil]); omega)) | exact QS.auto); exact rfl) | (refine GG ?_) | (refine GE ?_; (first | (rintro _ _ ⟨rfl, rfl⟩) | (rintro _ _ ⟨g, rfl, rfl⟩) | (rintro _ _ ⟨A', c', rfl, rfl⟩)); (try refine ⟨SUB, ?_⟩)) | ((refine GO2 ?_ ?_) <;> intro h <;> (try (repeat (first | with_reducible (replace h := of_decide_eq_true h) | with_reducible (replace h := of_decide_eq_false h) | with_reducible (replace h := bnt h) | with_reducible (replace h := bnf h) | with_reducible (replace h := Int.not_lt.mp h) | with_reducible (replace h := Int.not_le.mp h) | with_reducible (replace h := band_dec h) | with_reducible (replace h := band_decF h) | with_reducible (replace h := bor_dec h) | with_reducible (replace h := bor_decF h)))) <;> (try (exfalso; first | contradiction | omega))) | (refine GOF ?_ ?_) | fail)
      all_goals first | (exfalso; omega) | skip
      (refine At_ret Tryd.results4 rfl (fun w' hw => ?_))
      rw [hz]
      exact ⟨rfl, hw.below0 rfl⟩
end
end Go.Proofs.YthecmfhoaneejaaDoor

namespace Go.Proofs.YthecmfhoaneejaaDoor
open Go.RowKit Go.Lib
set_option linter.unusedSectionVars false

section
variable {P : Program} {C : Ctx} {E : Slots} {S : List Ent} {ty ty2 ty3 t : Nat} {x y z : Operand}
theorem QS_quo10 {m : Nat} (hx : evo E x = some (.int .i64 (m : Nat))) (hy : evo E y = some (.int .i64 10)) (hb : m ≤ 1000000000) : QS P C E S (.binOp .quo ty2 x y ty3) ty (.int .i64 ((m / 10 : Nat) : Int)) :=
  QS.of (fun _ w he _ => binInt he hx hy _ (by
    have h2 : Int.tdiv (m : Int) 10 = ((m / 10 : Nat) : Int) := by
      rw [Int.tdiv_eq_ediv_of_nonneg (by omega)]; omega
    have h3 : IntKind.i64.wrap ((m / 10 : Nat) : Int) = ((m / 10 : Nat) : Int) := IntWalk.i64_in _ ⟨by omega, by omega⟩
    simp only [binOp, Op.intDiv]
    rw [h2, h3]
    rfl))
theorem QS_negU {u : Nat} (hx : evo E x = some (.int .i64 (-(u : Int)))) (hb : u ≤ 1000000000) : QS P C E S (.unOp .neg ty2 x) ty (.int .i64 (u : Nat)) :=
  QS.of (fun _ w he _ => by
    have h3 : IntKind.i64.wrap (u : Int) = (u : Int) := IntWalk.i64_in _ ⟨by omega, by omega⟩
    simp [execOp, he.evo hx, Op.unary, Op.intArith, h3])
def digS : ByteArray := ⟨#[48, 49, 50, 51, 52, 53, 54, 55, 56, 57]⟩
theorem dig_at : ∀ k, k < 10 → digS.extract k (k + 1) = ⟨#[UInt8.ofNat (48 + k)]⟩ := by decide +kernel
theorem QS_digit {m : Nat} (hx : evo E x = some (.string digS)) (hy : evo E y = some (.int .i64 ((m : Int) % 10))) (hz : evo E z = some (.int .i64 ((m : Int) % 10 + 1))) (ht : P.underlying t = some .string) :
    QS P C E S (.slice t x (some y) (some z) none) ty (bsv [UInt8.ofNat (48 + m % 10)]) :=
  QS.of (fun a w ha _ => by
    have hr := run_slice_string_if (P := P) w t digS .i64 .i64 ((m : Int) % 10) ((m : Int) % 10 + 1) ht
    have hs : digS.size = 10 := rfl
    rw [if_pos (by rw [hs]; omega), if_pos (by omega)] at hr
    have e1 : ((m : Int) % 10).toNat = m % 10 := by omega
    have e2 : ((m : Int) % 10 + 1).toNat = m % 10 + 1 := by omega
    rw [e1, e2, dig_at _ (by omega)] at hr
    have hat := run_sliceAt_string (P := P) (w := w) t (.string digS) (some (.int .i64 ((m : Int) % 10))) (some (.int .i64 ((m : Int) % 10 + 1))) none ht
    simp [execOp, ha.evo hx, ha.evo hy, ha.evo hz, hat, hr]
    rfl)
end
theorem decDigits_len9 {m : Nat} (h : m ≤ 1000000000) : (decDigits m).length ≤ 20 := by
  rw [decDigits_length]; exact nDigits_le20 m (by omega)
set_option maxRecDepth 100000 in
theorem whole_nat (m : Nat) : ∀ w, m ≤ 1000000000 → Calls Tryd.prog 39 #[.int .i64 (m : Nat)] w fun e w' => e = .returned (bsv (decDigits m)) ∧ Below w.heap.size w w' := by
  induction m using Nat.strongRecOn with
  | _ m ih =>
    intro w hm
    refine calls_T (S := []) [] Tryd.func39 rfl Tryd.ntmps39 (by simp) (Mem.nil _) ?_
    have hl := decDigits_len9 (m := m / 10) (by omega)
    by_cases h10 : m < 10
    · rw [decDigits_one h10]
      repeat' (first | ((first | with_reducible (first | apply TL_q | apply TD_q0 | apply TD_q1 | apply TD_q2 | apply TD_q3) | ((with_reducible (first | apply TD_q0y | apply TD_q1y)); exact rfl; exact rfl; (with_reducible exact rfl))); (first | ((with_reducible apply QS_addBs); exact rfl; exact rfl; ((try simp only [List.length_append, List.length_cons, List.length_nil]); omega)) | ((with_reducible apply QS_eqlBs); exact rfl; exact rfl) | ((with_reducible apply QS_rem); exact rfl; exact rfl; omega; omega) | ((with_reducible apply QS_quo10); exact rfl; exact rfl; omega) | ((with_reducible apply QS_negU); exact rfl; omega) | ((with_reducible apply QS_digit); exact rfl; exact rfl; exact rfl; exact Tryd.underlying9) | exact QS.auto); exact rfl) | (refine GO ?_) | (refine GOE ?_; (first | (rintro _ _ ⟨rfl, rfl⟩) | (rintro _ _ ⟨g, rfl, rfl⟩) | (rintro _ _ ⟨A', c', rfl, rfl⟩))) | ((refine GO2 ?_ ?_) <;> intro h <;> (try (repeat (first | with_reducible (replace h := of_decide_eq_true h) | with_reducible (replace h := of_decide_eq_false h) | with_reducible (replace h := bnt h) | with_reducible (replace h := bnf h) | with_reducible (replace h := Int.not_lt.mp h) | with_reducible (replace h := Int.not_le.mp h) | with_reducible (replace h := band_dec h) | with_reducible (replace h := band_decF h) | with_reducible (replace h := bor_dec h) | with_reducible (replace h := bor_decF h)))) <;> (try (exfalso; first | contradiction | omega))) | fail)
      all_goals first | (exfalso; omega) | skip
      (refine At_ret Tryd.results39 rfl (fun w' hw => ?_))
      refine ⟨?_, hw.below0 rfl⟩
      rw [show m % 10 = m by omega]; rfl
    · rw [decDigits_big h10]
      have ih := fun w => ih (m / 10) (by omega) w (by omega)
      repeat' (first | ((first | with_reducible (first | apply TL_q | apply TD_q0 | apply TD_q1 | apply TD_q2 | apply TD_q3) | ((with_reducible (first | apply TD_q0y | apply TD_q1y)); exact rfl; exact rfl; (with_reducible exact rfl))); (first | ((with_reducible apply QS_addBs); exact rfl; exact rfl; ((try simp only [List.length_append, List.length_cons, List.length_nil]); omega)) | ((with_reducible apply QS_eqlBs); exact rfl; exact rfl) | ((with_reducible apply QS_rem); exact rfl; exact rfl; omega; omega) | ((with_reducible apply QS_quo10); exact rfl; exact rfl; omega) | ((with_reducible apply QS_negU); exact rfl; omega) | ((with_reducible apply QS_digit); exact rfl; exact rfl; exact rfl; exact Tryd.underlying9) | exact QS.auto); exact rfl) | (refine GO ?_) | (refine GOE ?_; (first | (rintro _ _ ⟨rfl, rfl⟩) | (rintro _ _ ⟨g, rfl, rfl⟩) | (rintro _ _ ⟨A', c', rfl, rfl⟩))) | ((refine GO2 ?_ ?_) <;> intro h <;> (try (repeat (first | with_reducible (replace h := of_decide_eq_true h) | with_reducible (replace h := of_decide_eq_false h) | with_reducible (replace h := bnt h) | with_reducible (replace h := bnf h) | with_reducible (replace h := Int.not_lt.mp h) | with_reducible (replace h := Int.not_le.mp h) | with_reducible (replace h := band_dec h) | with_reducible (replace h := band_decF h) | with_reducible (replace h := bor_dec h) | with_reducible (replace h := bor_decF h)))) <;> (try (exfalso; first | contradiction | omega))) | ((with_reducible (first | apply TD_e2z | apply TD_e3z | apply TL_e | apply TD_e2 | apply TD_e3)); ((with_reducible apply ES_callV (f := 39)); exact rfl; (intro w hw; exact ih w); exact rfl); (first | exact rfl | exact ⟨rfl, rfl, rfl⟩); (rintro _ _ ⟨rfl, rfl⟩); (try refine ⟨SUB, ?_⟩)) | fail)
      all_goals first | (exfalso; omega) | skip
      (refine At_ret Tryd.results39 rfl (fun w' hw => ?_))
      exact ⟨rfl, hw.below0 rfl⟩
set_option maxRecDepth 100000 in
theorem whole_any (n : Int) (w : World) (h : -1000000000 ≤ n ∧ n ≤ 1000000000) : Calls Tryd.prog 39 #[.int .i64 n] w fun e w' => e = .returned (bsv (itoa n)) ∧ Below w.heap.size w w' := by
  by_cases h0 : n < 0
  · obtain ⟨u, rfl⟩ : ∃ u : Nat, n = -(u : Int) := ⟨n.natAbs, by omega⟩
    rw [itoa_neg u (by omega)]
    have hl := decDigits_len9 (m := u) (by omega)
    refine calls_T (S := []) [] Tryd.func39 rfl Tryd.ntmps39 (by simp) (Mem.nil _) ?_
    repeat' (first | ((first | with_reducible (first | apply TL_q | apply TD_q0 | apply TD_q1 | apply TD_q2 | apply TD_q3) | ((with_reducible (first | apply TD_q0y | apply TD_q1y)); exact rfl; exact rfl; (with_reducible exact rfl))); (first | ((with_reducible apply QS_addBs); exact rfl; exact rfl; ((try simp only [List.length_append, List.length_cons, List.length_nil]); omega)) | ((with_reducible apply QS_eqlBs); exact rfl; exact rfl) | ((with_reducible apply QS_rem); exact rfl; exact rfl; omega; omega) | ((with_reducible apply QS_quo10); exact rfl; exact rfl; omega) | ((with_reducible apply QS_negU); exact rfl; omega) | ((with_reducible apply QS_digit); exact rfl; exact rfl; exact rfl; exact Tryd.underlying9) | exact QS.auto); exact rfl) | (refine GO ?_) | (refine GOE ?_; (first | (rintro _ _ ⟨rfl, rfl⟩) | (rintro _ _ ⟨g, rfl, rfl⟩) | (rintro _ _ ⟨A', c', rfl, rfl⟩))) | ((refine GO2 ?_ ?_) <;> intro h <;> (try (repeat (first | with_reducible (replace h := of_decide_eq_true h) | with_reducible (replace h := of_decide_eq_false h) | with_reducible (replace h := bnt h) | with_reducible (replace h := bnf h) | with_reducible (replace h := Int.not_lt.mp h) | with_reducible (replace h := Int.not_le.mp h) | with_reducible (replace h := band_dec h) | with_reducible (replace h := band_decF h) | with_reducible (replace h := bor_dec h) | with_reducible (replace h := bor_decF h)))) <;> (try (exfalso; first | contradiction | omega))) | ((with_reducible (first | apply TD_e2z | apply TD_e3z | apply TL_e | apply TD_e2 | apply TD_e3)); ((with_reducible apply ES_callV (f := 39)); exact rfl; (intro w hw; exact whole_nat u w (by omega)); exact rfl); (first | exact rfl | exact ⟨rfl, rfl, rfl⟩); (rintro _ _ ⟨rfl, rfl⟩); (try refine ⟨SUB, ?_⟩)) | fail)
    all_goals first | (exfalso; omega) | skip
    (refine At_ret Tryd.results39 rfl (fun w' hw => ?_))
    exact ⟨rfl, hw.below0 rfl⟩
  · obtain ⟨u, rfl⟩ : ∃ u : Nat, n = (u : Int) := ⟨n.toNat, by omega⟩
    rw [itoa_nonneg]
    exact whole_nat u w (by omega)
/-! the words -/
theorem fields_at (l : Bs) (ws : List Bs) (h : Lib.fields l = ws) (h0 : 0 < ws.length) (h1 : ws.length ≤ 100) (hl : l.length ≤ 1000) (ha : ∀ b ∈ l, b.toNat < 128) (w : World) (hT : TxW w) : Calls Tryd.prog 38 #[bsv l] w fun e w' => ∃ x : Nat × Nat, e = .returned (.slice (some ⟨x.1, 0, none⟩) ws.length x.2) ∧ Mem ⟨0, [], w⟩ w' [entOwn strEnc 1 9 (some ⟨x.1, 0, none⟩) x.2 ws] := by
  refine (Any.strings_Fields layFields (by kernel_rfl) (by kernel_rfl) ⟨l.toArray⟩ w (by show l.toArray.size < _; simp; omega) (fun j b hb => ha b (List.mem_of_getElem? (by simpa using hb))) hT.asc).mono ?_
  rintro e w' ⟨rfl, rfl⟩
  have e1 : (⟨l.toArray⟩ : ByteArray).data.toList = l := by simp
  rw [e1, h]
  refine ⟨(w.heap.size, ws.length), rfl, ?_⟩
  exact Mem.ofOwn (bel_alloc (Below.refl _ _) _) (own_alloc w ws (by unfold maxLen; omega) h0)
def typeS : Bs := [114, 101, 103, 32, 113, 117, 101, 117, 101, 32, 115, 116, 97, 99, 107, 32, 115, 101, 116, 32, 116, 105, 99, 107, 101, 116]
def kindS : Bs := [101, 110, 100, 32, 119, 114, 105, 116, 101, 32, 114, 101, 97, 100, 32, 101, 110, 113, 32, 100, 101, 113, 32, 112, 117, 115, 104, 32, 112, 111, 112, 32, 97, 100, 100, 32, 114, 101, 109, 111, 118, 101, 32, 104, 97, 115, 32, 116, 97, 107, 101]
def typeT : List Bs := [[114, 101, 103], [113, 117, 101, 117, 101], [115, 116, 97, 99, 107], [115, 101, 116], [116, 105, 99, 107, 101, 116]]
theorem fields_type : Lib.fields typeS = typeT := by decide +kernel
theorem fields_kind : Lib.fields kindS = kindW := by decide +kernel
theorem typeT_at : ∀ k, k < 5 → typeT[k]? = some (typeW.getD (k + 1) []) := by decide +kernel
end Go.Proofs.YthecmfhoaneejaaDoor

namespace Go.Proofs.YthecmfhoaneejaaDoor
open Go.RowKit Go.Lib
set_option linter.unusedSectionVars false

set_option maxRecDepth 100000 in
theorem typeWord_any (t : Int) (w : World) (ht : 1 ≤ t ∧ t ≤ 5) (hT : TxW w) : Calls Tryd.prog 26 #[.int .i64 t] w fun e w' => e = .returned (bsv (typeW.getD t.toNat [])) ∧ Below w.heap.size w w' := by
  refine calls_T (S := []) [] Tryd.func26 rfl Tryd.ntmps26 (by simp) (Mem.nil _) ?_
  have htl : typeT.length = 5 := rfl
  have hi : (t - 1).toNat < typeT.length := by omega
  have he : typeW.getD t.toNat [] = typeT[(t - 1).toNat] := by
    have := typeT_at (t - 1).toNat (by omega)
    rw [show (t - 1).toNat + 1 = t.toNat by omega, List.getElem?_eq_getElem hi] at this
    exact (Option.some.inj this).symm
  rw [he]
  repeat' (first | ((first | with_reducible (first | apply TL_q | apply TD_q0 | apply TD_q1 | apply TD_q2 | apply TD_q3) | ((with_reducible (first | apply TD_q0y | apply TD_q1y)); exact rfl; exact rfl; (with_reducible exact rfl))); (first | ((with_reducible apply QS_addBs); exact rfl; exact rfl; ((try simp only [List.length_append, List.length_cons, List.length_nil]); omega)) | ((with_reducible apply QS_eqlBs); exact rfl; exact rfl) | exact QS.auto); exact rfl) | (refine GO ?_) | (refine GOE ?_; (first | (rintro _ _ ⟨rfl, rfl⟩) | (rintro _ _ ⟨g, rfl, rfl⟩) | (rintro _ _ ⟨A', c', rfl, rfl⟩))) | ((refine GO2 ?_ ?_) <;> intro h <;> (try (repeat (first | with_reducible (replace h := of_decide_eq_true h) | with_reducible (replace h := of_decide_eq_false h) | with_reducible (replace h := bnt h) | with_reducible (replace h := bnf h) | with_reducible (replace h := Int.not_lt.mp h) | with_reducible (replace h := Int.not_le.mp h) | with_reducible (replace h := band_dec h) | with_reducible (replace h := band_decF h) | with_reducible (replace h := bor_dec h) | with_reducible (replace h := bor_decF h)))) <;> (try (exfalso; first | contradiction | omega))) | ((with_reducible (first | apply TD_e2z | apply TD_e3z | apply TL_e | apply TD_e2 | apply TD_e3)); ((with_reducible apply ES_callX (f := 38) (X := Nat × Nat) (S1 := []) (fun x => .slice (some ⟨x.1, 0, none⟩) typeT.length x.2) (fun x => [entOwn strEnc 1 9 (some ⟨x.1, 0, none⟩) x.2 typeT])); exact rfl; ((repeat (first | exact Pull.nil _ | (apply Pull.cons; (repeat (first | with_reducible exact Pick.here _ _ | with_reducible apply Pick.there)))))); (intro x; (try dsimp only); repeat (first | exact AppL.nil _ | apply AppL.cons)); (intro w hw; exact fields_at typeS typeT fields_type (by decide) (by decide) (by decide) (by decide) w (hT.carry (hw.below0 rfl))); exact rfl); (first | exact rfl | exact ⟨rfl, rfl, rfl⟩); (rintro _ _ ⟨⟨gw, cw⟩, rfl, rfl⟩); (try refine ⟨SUB, ?_⟩)) | fail)
  all_goals first | (exfalso; omega) | skip
  (refine At_ret Tryd.results26 rfl (fun w' hw => ?_))
  exact ⟨rfl, hw.below0 rfl⟩
set_option maxRecDepth 100000 in
theorem kindWord_any (t : Int) (w : World) (ht : 0 ≤ t ∧ t ≤ 10) (hT : TxW w) : Calls Tryd.prog 40 #[.int .i64 t] w fun e w' => e = .returned (bsv (kindW.getD t.toNat [])) ∧ Below w.heap.size w w' := by
  refine calls_T (S := []) [] Tryd.func40 rfl Tryd.ntmps40 (by simp) (Mem.nil _) ?_
  have htl : kindW.length = 11 := rfl
  have hi : t.toNat < kindW.length := by omega
  rw [show kindW.getD t.toNat [] = kindW[t.toNat] by simp [hi]]
  repeat' (first | ((first | with_reducible (first | apply TL_q | apply TD_q0 | apply TD_q1 | apply TD_q2 | apply TD_q3) | ((with_reducible (first | apply TD_q0y | apply TD_q1y)); exact rfl; exact rfl; (with_reducible exact rfl))); (first | ((with_reducible apply QS_addBs); exact rfl; exact rfl; ((try simp only [List.length_append, List.length_cons, List.length_nil]); omega)) | ((with_reducible apply QS_eqlBs); exact rfl; exact rfl) | exact QS.auto); exact rfl) | (refine GO ?_) | (refine GOE ?_; (first | (rintro _ _ ⟨rfl, rfl⟩) | (rintro _ _ ⟨g, rfl, rfl⟩) | (rintro _ _ ⟨A', c', rfl, rfl⟩))) | ((refine GO2 ?_ ?_) <;> intro h <;> (try (repeat (first | with_reducible (replace h := of_decide_eq_true h) | with_reducible (replace h := of_decide_eq_false h) | with_reducible (replace h := bnt h) | with_reducible (replace h := bnf h) | with_reducible (replace h := Int.not_lt.mp h) | with_reducible (replace h := Int.not_le.mp h) | with_reducible (replace h := band_dec h) | with_reducible (replace h := band_decF h) | with_reducible (replace h := bor_dec h) | with_reducible (replace h := bor_decF h)))) <;> (try (exfalso; first | contradiction | omega))) | ((with_reducible (first | apply TD_e2z | apply TD_e3z | apply TL_e | apply TD_e2 | apply TD_e3)); ((with_reducible apply ES_callX (f := 38) (X := Nat × Nat) (S1 := []) (fun x => .slice (some ⟨x.1, 0, none⟩) kindW.length x.2) (fun x => [entOwn strEnc 1 9 (some ⟨x.1, 0, none⟩) x.2 kindW])); exact rfl; ((repeat (first | exact Pull.nil _ | (apply Pull.cons; (repeat (first | with_reducible exact Pick.here _ _ | with_reducible apply Pick.there)))))); (intro x; (try dsimp only); repeat (first | exact AppL.nil _ | apply AppL.cons)); (intro w hw; exact fields_at kindS kindW fields_kind (by decide) (by decide) (by decide) (by decide) w (hT.carry (hw.below0 rfl))); exact rfl); (first | exact rfl | exact ⟨rfl, rfl, rfl⟩); (rintro _ _ ⟨⟨gw, cw⟩, rfl, rfl⟩); (try refine ⟨SUB, ?_⟩)) | fail)
  all_goals first | (exfalso; omega) | skip
  (refine At_ret Tryd.results40 rfl (fun w' hw => ?_))
  exact ⟨rfl, hw.below0 rfl⟩
/-- an event of small numbers -/
structure EvNum (x : Ev) : Prop where
  who : -1000000 ≤ x.who ∧ x.who ≤ 1000000
  thing : -1000000 ≤ x.thing ∧ x.thing ≤ 1000000
  kind : 0 ≤ x.kind ∧ x.kind ≤ 10
  value : -1000000 ≤ x.value ∧ x.value ≤ 1000000
theorem EvOk.num {x : Ev} (h : EvOk x) : EvNum x := by
  obtain ⟨h1, h2, h3, h4⟩ := h
  exact ⟨by omega, by omega, by omega, by omega⟩
theorem evB_num {x : Ev} (h : EvNum x) : (lineEv x).length ≤ 40 := by
  obtain ⟨h1, h2, h3, h4⟩ := h
  have k1 := itoa_len8 (n := x.who) (by omega)
  have k2 := itoa_len8 (n := x.thing) (by omega)
  have k3 := itoa_len8 (n := x.value) (by omega)
  have k4 := kindW_len (t := x.kind.toNat) (by omega)
  rw [lineEv_flat]
  split <;> simp only [List.length_append, List.length_cons, List.length_nil] <;> omega
set_option maxRecDepth 100000 in
set_option maxHeartbeats 1000000 in
theorem eventLine_any (x : Ev) (w : World) (hx : EvNum x) (hT : TxW w) : Calls Tryd.prog 27 #[.agg (Ev.enc x).toArray] w fun e w' => e = .returned (bsv (lineEv x)) ∧ Below w.heap.size w w' := by
  obtain ⟨e1, e2, e3, e4⟩ := hx
  have hn1 := itoa_len8 (n := x.who) e1
  have hn2 := itoa_len8 (n := x.thing) e2
  have hn3 := itoa_len8 (n := x.value) e4
  have hk := kindW_len (t := x.kind.toNat) (by omega)
  have hl := lineEv_flat x
  have hb : bareB x.kind = true ↔ x.kind = 2 ∨ x.kind = 4 ∨ x.kind = 6 ∨ x.kind = 10 := by
    unfold bareB
    simp only [Bool.or_eq_true, decide_eq_true_eq]
  refine calls_T (S := []) [] Tryd.func27 rfl Tryd.ntmps27 (by simp) (Mem.nil _) ?_
  by_cases hb1 : x.kind = 2 ∨ x.kind = 4 ∨ x.kind = 6 ∨ x.kind = 10
  · rw [if_pos (hb.2 hb1)] at hl
    rw [hl, List.append_nil]
    clear hl hb
    repeat' (first | ((first | with_reducible (first | apply TL_q | apply TD_q0 | apply TD_q1 | apply TD_q2 | apply TD_q3) | ((with_reducible (first | apply TD_q0y | apply TD_q1y)); exact rfl; exact rfl; (with_reducible exact rfl))); (first | ((with_reducible apply QS_addBs); exact rfl; exact rfl; ((try simp only [List.length_append, List.length_cons, List.length_nil]); omega)) | ((with_reducible apply QS_eqlBs); exact rfl; exact rfl) | exact QS.auto); exact rfl) | (refine GG ?_) | (refine GE ?_; (first | (rintro _ _ ⟨rfl, rfl⟩) | (rintro _ _ ⟨g, rfl, rfl⟩) | (rintro _ _ ⟨A', c', rfl, rfl⟩)); (try refine ⟨SUB, ?_⟩)) | ((refine GO2 ?_ ?_) <;> intro h <;> (try (repeat (first | with_reducible (replace h := of_decide_eq_true h) | with_reducible (replace h := of_decide_eq_false h) | with_reducible (replace h := bnt h) | with_reducible (replace h := bnf h) | with_reducible (replace h := Int.not_lt.mp h) | with_reducible (replace h := Int.not_le.mp h) | with_reducible (replace h := band_dec h) | with_reducible (replace h := band_decF h) | with_reducible (replace h := bor_dec h) | with_reducible (replace h := bor_decF h)))) <;> (try (exfalso; first | contradiction | omega))) | (refine GOF ?_ ?_) | ((with_reducible (first | apply TD_e2z | apply TD_e3z | apply TL_e | apply TD_e2 | apply TD_e3)); ((with_reducible apply ES_callV (f := 39)); exact rfl; (intro w hw; exact whole_any _ w (by omega)); exact rfl); (first | exact rfl | exact ⟨rfl, rfl, rfl⟩); (rintro _ _ ⟨rfl, rfl⟩); (try refine ⟨SUB, ?_⟩)) | ((with_reducible (first | apply TD_e2z | apply TD_e3z | apply TL_e | apply TD_e2 | apply TD_e3)); ((with_reducible apply ES_callV (f := 40)); exact rfl; (intro w hw; exact kindWord_any _ w (by omega) (hT.carry (hw.below0 rfl))); exact rfl); (first | exact rfl | exact ⟨rfl, rfl, rfl⟩); (rintro _ _ ⟨rfl, rfl⟩); (try refine ⟨SUB, ?_⟩)) | ((with_reducible apply T_draw (id := 1) 1000 (OT.seq [(0, 0), (0, 4), (0, 9), (1, 1), (1, 5), (1, 10), (2, 2), (0, 3), (2, 6), (0, 7), (0, 8), (2, 11), (0, 12), (0, 13)] .nil)); kernel_rfl; exact rfl; kernel_rfl; (repeat (first | with_reducible exact Blind.body | with_reducible apply Blind.seq | with_reducible apply Blind.block))) | fail)
    all_goals first | (exfalso; omega) | skip
    all_goals
      (refine At_ret Tryd.results27 rfl (fun w' hw => ?_))
      exact ⟨rfl, hw.below0 rfl⟩
  · rw [if_neg (fun h => hb1 (hb.1 h))] at hl
    rw [hl]
    clear hl hb
    repeat' (first | ((first | with_reducible (first | apply TL_q | apply TD_q0 | apply TD_q1 | apply TD_q2 | apply TD_q3) | ((with_reducible (first | apply TD_q0y | apply TD_q1y)); exact rfl; exact rfl; (with_reducible exact rfl))); (first | ((with_reducible apply QS_addBs); exact rfl; exact rfl; ((try simp only [List.length_append, List.length_cons, List.length_nil]); omega)) | ((with_reducible apply QS_eqlBs); exact rfl; exact rfl) | exact QS.auto); exact rfl) | (refine GG ?_) | (refine GE ?_; (first | (rintro _ _ ⟨rfl, rfl⟩) | (rintro _ _ ⟨g, rfl, rfl⟩) | (rintro _ _ ⟨A', c', rfl, rfl⟩)); (try refine ⟨SUB, ?_⟩)) | ((refine GO2 ?_ ?_) <;> intro h <;> (try (repeat (first | with_reducible (replace h := of_decide_eq_true h) | with_reducible (replace h := of_decide_eq_false h) | with_reducible (replace h := bnt h) | with_reducible (replace h := bnf h) | with_reducible (replace h := Int.not_lt.mp h) | with_reducible (replace h := Int.not_le.mp h) | with_reducible (replace h := band_dec h) | with_reducible (replace h := band_decF h) | with_reducible (replace h := bor_dec h) | with_reducible (replace h := bor_decF h)))) <;> (try (exfalso; first | contradiction | omega))) | (refine GOF ?_ ?_) | ((with_reducible (first | apply TD_e2z | apply TD_e3z | apply TL_e | apply TD_e2 | apply TD_e3)); ((with_reducible apply ES_callV (f := 39)); exact rfl; (intro w hw; exact whole_any _ w (by omega)); exact rfl); (first | exact rfl | exact ⟨rfl, rfl, rfl⟩); (rintro _ _ ⟨rfl, rfl⟩); (try refine ⟨SUB, ?_⟩)) | ((with_reducible (first | apply TD_e2z | apply TD_e3z | apply TL_e | apply TD_e2 | apply TD_e3)); ((with_reducible apply ES_callV (f := 40)); exact rfl; (intro w hw; exact kindWord_any _ w (by omega) (hT.carry (hw.below0 rfl))); exact rfl); (first | exact rfl | exact ⟨rfl, rfl, rfl⟩); (rintro _ _ ⟨rfl, rfl⟩); (try refine ⟨SUB, ?_⟩)) | ((with_reducible apply T_draw (id := 1) 1000 (OT.seq [(0, 0), (0, 4), (0, 9), (1, 1), (1, 5), (1, 10), (2, 2), (0, 3), (2, 6), (0, 7), (0, 8), (2, 11), (0, 12), (0, 13)] .nil)); kernel_rfl; exact rfl; kernel_rfl; (repeat (first | with_reducible exact Blind.body | with_reducible apply Blind.seq | with_reducible apply Blind.block))) | fail)
    all_goals first | (exfalso; omega) | skip
    all_goals
      (refine At_ret Tryd.results27 rfl (fun w' hw => ?_))
      refine ⟨?_, hw.below0 rfl⟩
      simp only [List.append_assoc]; rfl
section
variable (A B : Option Addr) (ca cl : Nat) (ts : List Int) (l : List Ev) (w : World) (hA : RdInt w A ts) (hB : RdEv w B l) (hT : TxW w) (ht4 : ts.length ≤ 4) (htk : ∀ t ∈ ts, 1 ≤ t ∧ t ≤ 5) (hl2 : l.length ≤ 200) (hev : ∀ x ∈ l, EvNum x)
include hA hB hT ht4 htk hl2 hev
set_option maxRecDepth 100000 in
set_option maxHeartbeats 4000000 in
theorem textOf_any : Calls Tryd.prog 7 #[.slice A ts.length ca, .slice B l.length cl] w fun e w' => e = .returned (bsv (textB ts l)) ∧ Below w.heap.size w w' := by
  refine calls_T (S := []) [] Tryd.func7 rfl Tryd.ntmps7 (by simp) (Mem.nil _) ?_
  repeat' (first | ((first | with_reducible (first | apply TL_q | apply TD_q0 | apply TD_q1 | apply TD_q2 | apply TD_q3) | ((with_reducible (first | apply TD_q0y | apply TD_q1y)); exact rfl; exact rfl; (with_reducible exact rfl))); (first | ((with_reducible apply QS_addBs); exact rfl; exact rfl; ((try simp only [List.length_append, List.length_cons, List.length_nil]); omega)) | ((with_reducible apply QS_eqlBs); exact rfl; exact rfl) | exact QS.auto); exact rfl) | (refine GG ?_) | (refine GE ?_; (first | (rintro _ _ ⟨rfl, rfl⟩) | (rintro _ _ ⟨g, rfl, rfl⟩) | (rintro _ _ ⟨A', c', rfl, rfl⟩)); (try refine ⟨SUB, ?_⟩)) | ((refine GO2 ?_ ?_) <;> intro h <;> (try (repeat (first | with_reducible (replace h := of_decide_eq_true h) | with_reducible (replace h := of_decide_eq_false h) | with_reducible (replace h := bnt h) | with_reducible (replace h := bnf h) | with_reducible (replace h := Int.not_lt.mp h) | with_reducible (replace h := Int.not_le.mp h) | with_reducible (replace h := band_dec h) | with_reducible (replace h := band_decF h) | with_reducible (replace h := bor_dec h) | with_reducible (replace h := bor_decF h)))) <;> (try (exfalso; first | contradiction | omega))) | (refine GOF ?_ ?_) | fail)
  refine T_loop (X := Nat) (fun k => [(12, .int .i64 (k : Nat)), (11, .int .i64 ts.length), (10, .slice A ts.length ca), (5, bsv (thW ++ (ts.take k).flatMap tyB)), (1, .slice B l.length cl)]) (fun _ => []) (fun k => k ≤ ts.length) (fun k => ts.length - k) 0 (by omega) (by (repeat (first | exact SubE.nil _ | refine SubE.cons rfl ?_))) (by exact SUBS) ?_
  intro k hk
  have hlen : (thW ++ (ts.take k).flatMap tyB).length ≤ 40 := by
    have h2 := bflat_len (f := tyB) (m := 7) (l := ts.take k) fun t ht => tyB_len (htk t (List.mem_of_mem_take ht))
    have h3 : (ts.take k).length ≤ 4 := by rw [List.length_take]; omega
    have h4 : thW.length = 6 := rfl
    rw [List.length_append]; omega
  by_cases hkl : k < ts.length
  · have hks : thW ++ (ts.take (k + 1)).flatMap tyB = (thW ++ (ts.take k).flatMap tyB) ++ tyB ts[k] := by rw [bflat_take tyB hkl, List.append_assoc]
    have ht := htk ts[k] (List.getElem_mem _)
    have hwl2 := typeW_len (t := ts[k].toNat) (by omega)
    rw [show tyB ts[k] = [32] ++ typeW.getD ts[k].toNat [] from rfl] at hks
    generalize thW ++ (ts.take k).flatMap tyB = K at *
    obtain ⟨b, o, rfl, _⟩ := RdE.open hA (by omega)
    repeat' (first | ((first | with_reducible (first | apply TL_q | apply TD_q0 | apply TD_q1 | apply TD_q2 | apply TD_q3) | ((with_reducible (first | apply TD_q0y | apply TD_q1y)); exact rfl; exact rfl; (with_reducible exact rfl))); (first | ((with_reducible apply QS_addBs); exact rfl; exact rfl; ((try simp only [List.length_append, List.length_cons, List.length_nil]); omega)) | ((with_reducible apply QS_eqlBs); exact rfl; exact rfl) | exact QS.auto); exact rfl) | (refine GG ?_) | (refine GE ?_; (first | (rintro _ _ ⟨rfl, rfl⟩) | (rintro _ _ ⟨g, rfl, rfl⟩) | (rintro _ _ ⟨A', c', rfl, rfl⟩)); (try refine ⟨SUB, ?_⟩)) | ((refine GO2 ?_ ?_) <;> intro h <;> (try (repeat (first | with_reducible (replace h := of_decide_eq_true h) | with_reducible (replace h := of_decide_eq_false h) | with_reducible (replace h := bnt h) | with_reducible (replace h := bnf h) | with_reducible (replace h := Int.not_lt.mp h) | with_reducible (replace h := Int.not_le.mp h) | with_reducible (replace h := band_dec h) | with_reducible (replace h := band_decF h) | with_reducible (replace h := bor_dec h) | with_reducible (replace h := bor_decF h)))) <;> (try (exfalso; first | contradiction | omega))) | (refine GOF ?_ ?_) | ((with_reducible (first | apply TD_e2z | apply TD_e3z | apply TL_e | apply TD_e2 | apply TD_e3)); ((with_reducible apply ES_callV (f := 26)); exact rfl; (intro w hw; exact typeWord_any _ w (by omega) (hT.carry (hw.below0 rfl))); exact rfl); (first | exact rfl | exact ⟨rfl, rfl, rfl⟩); (rintro _ _ ⟨rfl, rfl⟩); (try refine ⟨SUB, ?_⟩)) | fail)
    all_goals exact At_rounds (k + 1) (by omega) (by omega) (by rw [hks]; (repeat (first | exact SubE.nil _ | refine SubE.cons rfl ?_))) (by exact SUBS)
  · obtain rfl : k = ts.length := by omega
    rw [List.take_length]
    rw [List.take_length] at hlen
    unfold textB
    generalize thW ++ ts.flatMap tyB = K at *
    repeat' (first | ((first | with_reducible (first | apply TL_q | apply TD_q0 | apply TD_q1 | apply TD_q2 | apply TD_q3) | ((with_reducible (first | apply TD_q0y | apply TD_q1y)); exact rfl; exact rfl; (with_reducible exact rfl))); (first | ((with_reducible apply QS_addBs); exact rfl; exact rfl; ((try simp only [List.length_append, List.length_cons, List.length_nil]); omega)) | ((with_reducible apply QS_eqlBs); exact rfl; exact rfl) | exact QS.auto); exact rfl) | (refine GG ?_) | (refine GE ?_; (first | (rintro _ _ ⟨rfl, rfl⟩) | (rintro _ _ ⟨g, rfl, rfl⟩) | (rintro _ _ ⟨A', c', rfl, rfl⟩)); (try refine ⟨SUB, ?_⟩)) | ((refine GO2 ?_ ?_) <;> intro h <;> (try (repeat (first | with_reducible (replace h := of_decide_eq_true h) | with_reducible (replace h := of_decide_eq_false h) | with_reducible (replace h := bnt h) | with_reducible (replace h := bnf h) | with_reducible (replace h := Int.not_lt.mp h) | with_reducible (replace h := Int.not_le.mp h) | with_reducible (replace h := band_dec h) | with_reducible (replace h := band_decF h) | with_reducible (replace h := bor_dec h) | with_reducible (replace h := bor_decF h)))) <;> (try (exfalso; first | contradiction | omega))) | (refine GOF ?_ ?_) | fail)
    all_goals first | (exfalso; omega) | skip
    refine T_loop (X := Nat) (fun k => [(26, .int .i64 (k : Nat)), (25, .int .i64 l.length), (24, .slice B l.length cl), (5, bsv (K ++ [10] ++ (l.take k).flatMap evB))]) (fun _ => []) (fun k => k ≤ l.length) (fun k => l.length - k) 0 (by omega) (by rw [show (l.take 0).flatMap evB = [] from rfl, List.append_nil]; (repeat (first | exact SubE.nil _ | refine SubE.cons rfl ?_))) (by exact SUBS) ?_
    intro k hk
    have hlen2 : (K ++ [10] ++ (l.take k).flatMap evB).length ≤ 10000 := by
      have h2 := bflat_len (f := evB) (m := 41) (l := l.take k) fun x hx => by
        have := evB_num (hev x (List.mem_of_mem_take hx))
        unfold evB; rw [List.length_append, List.length_singleton]; omega
      have h3 : (l.take k).length ≤ 200 := by rw [List.length_take]; omega
      rw [List.length_append, List.length_append, List.length_singleton]; omega
    by_cases hkl : k < l.length
    · have hks : K ++ [10] ++ (l.take (k + 1)).flatMap evB = (K ++ [10] ++ (l.take k).flatMap evB) ++ evB l[k] := by rw [bflat_take evB hkl, ← List.append_assoc]
      have hx := hev l[k] (List.getElem_mem _)
      have hxl := evB_num hx
      rw [show evB l[k] = lineEv l[k] ++ [10] from rfl] at hks
      generalize K ++ [10] ++ (l.take k).flatMap evB = K2 at *
      obtain ⟨b, o, rfl, _⟩ := RdE.open hB (by omega)
      repeat' (first | ((first | with_reducible (first | apply TL_q | apply TD_q0 | apply TD_q1 | apply TD_q2 | apply TD_q3) | ((with_reducible (first | apply TD_q0y | apply TD_q1y)); exact rfl; exact rfl; (with_reducible exact rfl))); (first | ((with_reducible apply QS_addBs); exact rfl; exact rfl; ((try simp only [List.length_append, List.length_cons, List.length_nil]); omega)) | ((with_reducible apply QS_eqlBs); exact rfl; exact rfl) | exact QS.auto); exact rfl) | (refine GG ?_) | (refine GE ?_; (first | (rintro _ _ ⟨rfl, rfl⟩) | (rintro _ _ ⟨g, rfl, rfl⟩) | (rintro _ _ ⟨A', c', rfl, rfl⟩)); (try refine ⟨SUB, ?_⟩)) | ((refine GO2 ?_ ?_) <;> intro h <;> (try (repeat (first | with_reducible (replace h := of_decide_eq_true h) | with_reducible (replace h := of_decide_eq_false h) | with_reducible (replace h := bnt h) | with_reducible (replace h := bnf h) | with_reducible (replace h := Int.not_lt.mp h) | with_reducible (replace h := Int.not_le.mp h) | with_reducible (replace h := band_dec h) | with_reducible (replace h := band_decF h) | with_reducible (replace h := bor_dec h) | with_reducible (replace h := bor_decF h)))) <;> (try (exfalso; first | contradiction | omega))) | (refine GOF ?_ ?_) | ((with_reducible (first | apply TD_e2z | apply TD_e3z | apply TL_e | apply TD_e2 | apply TD_e3)); ((with_reducible apply ES_callV (f := 27)); exact rfl; (intro w hw; exact eventLine_any _ w hx (hT.carry (hw.below0 rfl))); exact rfl); (first | exact rfl | exact ⟨rfl, rfl, rfl⟩); (rintro _ _ ⟨rfl, rfl⟩); (try refine ⟨SUB, ?_⟩)) | fail)
      all_goals exact At_rounds (k + 1) (by omega) (by omega) (by rw [hks]; (repeat (first | exact SubE.nil _ | refine SubE.cons rfl ?_))) (by exact SUBS)
    · obtain rfl : k = l.length := by omega
      rw [List.take_length]
      repeat' (first | ((first | with_reducible (first | apply TL_q | apply TD_q0 | apply TD_q1 | apply TD_q2 | apply TD_q3) | ((with_reducible (first | apply TD_q0y | apply TD_q1y)); exact rfl; exact rfl; (with_reducible exact rfl))); (first | ((with_reducible apply QS_addBs); exact rfl; exact rfl; ((try simp only [List.length_append, List.length_cons, List.length_nil]); omega)) | ((with_reducible apply QS_eqlBs); exact rfl; exact rfl) | exact QS.auto); exact rfl) | (refine GG ?_) | (refine GE ?_; (first | (rintro _ _ ⟨rfl, rfl⟩) | (rintro _ _ ⟨g, rfl, rfl⟩) | (rintro _ _ ⟨A', c', rfl, rfl⟩)); (try refine ⟨SUB, ?_⟩)) | ((refine GO2 ?_ ?_) <;> intro h <;> (try (repeat (first | with_reducible (replace h := of_decide_eq_true h) | with_reducible (replace h := of_decide_eq_false h) | with_reducible (replace h := bnt h) | with_reducible (replace h := bnf h) | with_reducible (replace h := Int.not_lt.mp h) | with_reducible (replace h := Int.not_le.mp h) | with_reducible (replace h := band_dec h) | with_reducible (replace h := band_decF h) | with_reducible (replace h := bor_dec h) | with_reducible (replace h := bor_decF h)))) <;> (try (exfalso; first | contradiction | omega))) | (refine GOF ?_ ?_) | fail)
      all_goals first | (exfalso; omega) | skip
      (refine At_ret Tryd.results7 rfl (fun w' hw => ?_))
      exact ⟨rfl, hw.below0 rfl⟩
end
end Go.Proofs.YthecmfhoaneejaaDoor
