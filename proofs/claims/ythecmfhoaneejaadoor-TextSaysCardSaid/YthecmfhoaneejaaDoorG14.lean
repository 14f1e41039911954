/- Lemmas for the walks (TxS). No condition. -/
import Derived.Test.YthecmfhoaneejaaDoorG13
set_option linter.unusedSimpArgs false
set_option linter.unusedVariables false
set_option linter.unusedSectionVars false
set_option linter.unnecessarySimpa false
namespace Go.Proofs.YthecmfhoaneejaaDoor
open Go.RowKit Go.Lib
set_option linter.unusedSectionVars false

theorem cut_any (l : Bs) (w : World) (hl : l.length ≤ 1000000) (hT : TxW w) : Calls Tryd.prog 28 #[bsv l, bsv [10]] w fun e w' => e = .returned (.tuple #[bsv (Lib.cut l [10]).1, bsv (Lib.cut l [10]).2.1, .bool (Lib.cut l [10]).2.2]) ∧ Below w.heap.size w w' := by
  obtain ⟨m, hm⟩ := hT.max
  refine (Any.strings_Cut layCut ⟨l.toArray⟩ ⟨#[10]⟩ m w (by show l.toArray.size < _; simp; omega) hm).mono ?_
  rintro e w' ⟨rfl, n, rfl⟩
  have e1 : (⟨l.toArray⟩ : ByteArray).data.toList = l := by simp
  have e2 : (⟨#[10]⟩ : ByteArray).data.toList = [10] := rfl
  rw [e1, e2]
  exact ⟨rfl, below_drewN0 n⟩
theorem cut_more {x r : Bs} (hx : (10 : UInt8) ∉ x) (w : World) (hl : (x ++ 10 :: r).length ≤ 1000000) (hT : TxW w) : Calls Tryd.prog 28 #[bsv (x ++ 10 :: r), bsv [10]] w fun e w' => e = .returned (.tuple #[bsv x, bsv r, .bool true]) ∧ Below w.heap.size w w' := by
  have := cut_any (x ++ 10 :: r) w hl hT
  rw [cut_has hx r] at this
  exact this
theorem cut_last {x : Bs} (hx : (10 : UInt8) ∉ x) (w : World) (hl : x.length ≤ 1000000) (hT : TxW w) : Calls Tryd.prog 28 #[bsv x, bsv [10]] w fun e w' => e = .returned (.tuple #[bsv x, bsv [], .bool false]) ∧ Below w.heap.size w w' := by
  have := cut_any x w hl hT
  rw [cut_no hx] at this
  exact this
theorem join_more {ls : List Bs} {k : Nat} (h : k + 1 < ls.length) : joinL 10 (ls.drop k) = ls[k] ++ 10 :: joinL 10 (ls.drop (k + 1)) := by
  rw [List.drop_eq_getElem_cons (by omega), joinL_cons]
  intro e
  have := congrArg List.length e
  simp at this; omega
theorem join_one {ls : List Bs} {k : Nat} (h : k + 1 = ls.length) : joinL 10 (ls.drop k) = ls[k] := by
  rw [List.drop_eq_getElem_cons (by omega), List.drop_eq_nil_of_le (by omega)]; rfl
/-- the type that the first words tell -/
def tyTo (w : Bs) (t : Nat) : List Int := if 1 ≤ idxB typeW w ∧ idxB typeW w < (t : Int) then [idxB typeW w] else []
theorem type_at {w : Bs} {k : Nat} (hk : k < 6) : typeW.getD k [] = w ↔ idxB typeW w = (k : Int) := by
  constructor
  · intro h
    have := idxB_at (ws := typeW) (by decide) (i := k) hk
    rw [h] at this
    exact this
  · intro h
    rcases idxB_cases typeW w with e | ⟨i, e, h1, h2⟩
    · omega
    · have : i = k := by omega
      rw [← this]; exact h2
theorem tyTo_one (w : Bs) : tyTo w 1 = [] := if_neg (by omega)
theorem tyTo_yes {w : Bs} {t : Nat} (h1 : 1 ≤ t) (ht : t < 6) (h : typeW.getD t [] = w) : tyTo w t = [] ∧ tyTo w (t + 1) = [(t : Int)] := by
  have := (type_at ht).1 h
  unfold tyTo
  rw [this]
  exact ⟨if_neg (by omega), if_pos (by omega)⟩
theorem tyTo_no {w : Bs} {t : Nat} (ht : t < 6) (h : ¬ typeW.getD t [] = w) : tyTo w (t + 1) = tyTo w t := by
  have : ¬ idxB typeW w = (t : Int) := fun e => h ((type_at ht).2 e)
  unfold tyTo
  by_cases e : 1 ≤ idxB typeW w ∧ idxB typeW w < (t : Int)
  · rw [if_pos e, if_pos (by omega)]
  · rw [if_neg e, if_neg (by omega)]
theorem tyTo_end (w : Bs) : tyTo w 6 = (tyOf w).toList := by
  have h : idxB typeW w < 6 := by
    rcases idxB_cases typeW w with e | ⟨i, e, h1, _⟩
    · omega
    · have : typeW.length = 6 := rfl
      omega
  unfold tyTo tyOf
  by_cases e : 1 ≤ idxB typeW w
  · rw [if_pos ⟨e, h⟩, if_pos e]; rfl
  · rw [if_neg (fun c => e c.1), if_neg e]; rfl
theorem tyTo_len (w : Bs) (t : Nat) : (tyTo w t).length ≤ 1 := by unfold tyTo; split <;> simp
def tyAcc (ws : List Bs) (j : Nat) : List Int := (ws.tail.take j).filterMap tyOf
theorem tyAcc_len (ws : List Bs) (j : Nat) : (tyAcc ws j).length ≤ j := by
  unfold tyAcc
  refine Nat.le_trans (List.length_filterMap_le _ _) ?_
  rw [List.length_take]; omega
theorem tyAcc_succ {ws : List Bs} {j : Nat} (h : j + 1 < ws.length) : tyAcc ws (j + 1) = tyAcc ws j ++ tyTo ws[j + 1] 6 := by
  have hg : ws.tail[j]'(by simp; omega) = ws[j + 1] := by simp
  unfold tyAcc
  rw [List.take_succ_eq_append_getElem (by simp; omega), List.filterMap_append, hg, tyTo_end]
  congr 1
theorem tyAcc_end (ws : List Bs) : tyAcc ws (ws.length - 1) = ws.tail.filterMap tyOf := by
  unfold tyAcc
  rw [List.take_of_length_le (by simp)]
theorem textB_nil (ts : List Int) : textB ts [] = firstL ts ++ [10] := by
  unfold textB
  rw [firstL_flat]; simp
section
variable (l : Bs) (w : World) (hl : l.length ≤ 9223372036854775807) (hT : TxW w)
include hl hT
set_option maxRecDepth 100000 in
set_option maxHeartbeats 8000000 in
theorem docRead_any : Calls Tryd.prog 8 #[bsv l] w fun e w' => ∃ x : (Option Addr × Nat) × (Option Addr × Nat), e = .returned (.tuple #[.slice x.1.1 (readR l).1.length x.1.2, .slice x.2.1 (readR l).2.1.length x.2.2, .int .i64 (readR l).2.2.1, .int .i64 (readR l).2.2.2]) ∧ Mem ⟨0, [], w⟩ w' [entOwn intEnc 1 3 x.1.1 x.1.2 (readR l).1, entOwn Ev.enc 4 36 x.2.1 x.2.2 (readR l).2.1] := by
  refine calls_T (S := []) [] Tryd.func8 rfl Tryd.ntmps8 (by simp) (Mem.nil _) ?_
  by_cases h8 : 8192 < l.length
  · rw [show readR l = ([], [], 0, 2) from if_pos h8]
    repeat' (first | ((first | with_reducible (first | apply TL_q | apply TD_q0 | apply TD_q1 | apply TD_q2 | apply TD_q3) | ((with_reducible (first | apply TD_q0y | apply TD_q1y)); exact rfl; exact rfl; (with_reducible exact rfl))); (first | ((with_reducible apply QS_lenStr Tryd.underlying9); exact rfl) | ((with_reducible apply QS_eqlBs); exact rfl; exact rfl) | ((with_reducible apply QS_neqBs (a := ls[k]) (b := [])); exact rfl; exact rfl) | ((with_reducible apply QS_neqBs (a := textB (typesL l0) []) (b := l0 ++ [10])); exact rfl; exact rfl) | ((with_reducible apply QS_addBs (a := l0) (b := [10])); exact rfl; exact rfl; ((try simp only [List.length_cons, List.length_nil]); omega)) | ((with_reducible apply QS_sliceLow (l := 1)); exact rfl; exact rfl; omega) | ((with_reducible apply QS_index (o' := j + 1)); exact rfl; exact rfl; omega; omega) | exact QS.auto); exact rfl) | (refine GG ?_) | (refine GE ?_; (first | (rintro _ _ ⟨rfl, rfl⟩) | (rintro _ _ ⟨g, rfl, rfl⟩) | (rintro _ _ ⟨A', c', rfl, rfl⟩)); (try refine ⟨SUB, ?_⟩)) | ((refine GO2 ?_ ?_) <;> intro h <;> (try (repeat (first | with_reducible (replace h := of_decide_eq_true h) | with_reducible (replace h := of_decide_eq_false h) | with_reducible (replace h := bnt h) | with_reducible (replace h := bnf h) | with_reducible (replace h := Int.not_lt.mp h) | with_reducible (replace h := Int.not_le.mp h) | with_reducible (replace h := band_dec h) | with_reducible (replace h := band_decF h) | with_reducible (replace h := bor_dec h) | with_reducible (replace h := bor_decF h)))) <;> (try (exfalso; first | contradiction | omega))) | (refine GOF ?_ ?_) | fail)
    all_goals first | (exfalso; omega) | skip
    (refine At_ret Tryd.results8 rfl (fun w' hw => ?_))
    exact ⟨((none, 0), (none, 0)), rfl, (((hw.nilOwn Ev.enc 4 36).nilOwn intEnc 1 3).anyN 0).sel (by (repeat (first | exact Sel.nil _ | (apply Sel.cons; (repeat (first | with_reducible exact Pick.here _ _ | with_reducible apply Pick.there))))))⟩
  have hR : readR l = match badLine (splitL 10 l) with
    | some i => ([], [], (i : Int), 7)
    | none =>
      if (callsR (tysK (splitL 10 l)) (evsK (splitL 10 l) ((splitL 10 l).length - 1))).2.2 = 2 then ([], [], 0, 2)
      else if (callsR (tysK (splitL 10 l)) (evsK (splitL 10 l) ((splitL 10 l).length - 1))).2.2 ≠ 0 then ([], [], (callsR (tysK (splitL 10 l)) (evsK (splitL 10 l) ((splitL 10 l).length - 1))).2.1 + 1, (callsR (tysK (splitL 10 l)) (evsK (splitL 10 l) ((splitL 10 l).length - 1))).2.2)
      else (tysK (splitL 10 l), evsK (splitL 10 l) ((splitL 10 l).length - 1), 0, 0) := if_neg h8
  have hne := splitL_ne 10 l
  have hsl := splitL_len 10 l
  have hpl := fun x (h : x ∈ splitL 10 l) => splitL_part h
  have hfr := splitL_free 10 l
  have hjo := join_split 10 l
  obtain ⟨ls, hls⟩ : ∃ ls, ls = splitL 10 l := ⟨_, rfl⟩
  rw [← hls] at hne hsl hpl hR hfr hjo
  clear hls
  have hpos : 0 < ls.length := by
    rcases hx : ls with _ | ⟨a, b⟩
    · exact absurd hx hne
    · simp
  repeat' (first | ((first | with_reducible (first | apply TL_q | apply TD_q0 | apply TD_q1 | apply TD_q2 | apply TD_q3) | ((with_reducible (first | apply TD_q0y | apply TD_q1y)); exact rfl; exact rfl; (with_reducible exact rfl))); (first | ((with_reducible apply QS_lenStr Tryd.underlying9); exact rfl) | ((with_reducible apply QS_eqlBs); exact rfl; exact rfl) | ((with_reducible apply QS_neqBs (a := ls[k]) (b := [])); exact rfl; exact rfl) | ((with_reducible apply QS_neqBs (a := textB (typesL l0) []) (b := l0 ++ [10])); exact rfl; exact rfl) | ((with_reducible apply QS_addBs (a := l0) (b := [10])); exact rfl; exact rfl; ((try simp only [List.length_cons, List.length_nil]); omega)) | ((with_reducible apply QS_sliceLow (l := 1)); exact rfl; exact rfl; omega) | ((with_reducible apply QS_index (o' := j + 1)); exact rfl; exact rfl; omega; omega) | exact QS.auto); exact rfl) | (refine GG ?_) | (refine GE ?_; (first | (rintro _ _ ⟨rfl, rfl⟩) | (rintro _ _ ⟨g, rfl, rfl⟩) | (rintro _ _ ⟨A', c', rfl, rfl⟩)); (try refine ⟨SUB, ?_⟩)) | ((refine GO2 ?_ ?_) <;> intro h <;> (try (repeat (first | with_reducible (replace h := of_decide_eq_true h) | with_reducible (replace h := of_decide_eq_false h) | with_reducible (replace h := bnt h) | with_reducible (replace h := bnf h) | with_reducible (replace h := Int.not_lt.mp h) | with_reducible (replace h := Int.not_le.mp h) | with_reducible (replace h := band_dec h) | with_reducible (replace h := band_decF h) | with_reducible (replace h := bor_dec h) | with_reducible (replace h := bor_decF h)))) <;> (try (exfalso; first | contradiction | omega))) | (refine GOF ?_ ?_) | fail)
  all_goals first | (exfalso; omega) | skip
  refine T_loop (X := Nat × (Option Addr × Nat) × (Option Addr × Nat)) (fun x => [(8, .int .i64 (x.1 : Nat)), (0, bsv (joinL 10 (ls.drop x.1))), (6, .slice x.2.1.1 (tyAt ls x.1).length x.2.1.2), (7, .slice x.2.2.1 (evAt ls x.1).length x.2.2.2)]) (fun x => [entOwn intEnc 1 3 x.2.1.1 x.2.1.2 (tyAt ls x.1), entOwn Ev.enc 4 36 x.2.2.1 x.2.2.2 (evAt ls x.1)])
    (fun x => x.1 < ls.length ∧ (∀ i, i < x.1 → lineOkB ls i = true) ∧ (joinL 10 (ls.drop x.1)).length ≤ 8192) (fun x => ls.length - x.1) (0, (none, 0), (none, 0)) ⟨hpos, fun i h => absurd h (Nat.not_lt_zero _), by show (joinL 10 ls).length ≤ _; rw [hjo]; omega⟩ (by (try dsimp only); rw [List.drop_zero, hjo]; (repeat (first | exact SubE.nil _ | refine SubE.cons rfl ?_))) (fun w' hw => by (show Mem _ w' [entOwn intEnc 1 3 none 0 [], entOwn Ev.enc 4 36 none 0 []]); exact ((hw.nilOwn Ev.enc 4 36).nilOwn intEnc 1 3).sel (by (repeat (first | exact Sel.nil _ | (apply Sel.cons; (repeat (first | with_reducible exact Pick.here _ _ | with_reducible apply Pick.there))))))) ?_
  rintro ⟨k, ⟨A3, c3⟩, ⟨A4, c4⟩⟩ ⟨hkl, hok, hjl⟩
  dsimp only at hkl hok hjl ⊢
  have hlk : lnK ls k = ls[k] := by unfold lnK; simp [hkl]
  have hpk := hpl ls[k] (List.getElem_mem _)
  have hfree := hfr ls[k] (List.getElem_mem _)
  have hbad : lineOkB ls k = false → readR l = ([], [], (k : Int), 7) := fun h => by rw [hR, badLine_some hkl hok h]
  have hnx : lineOkB ls k = true → ∀ i, i < k + 1 → lineOkB ls i = true := fun h i hi => by
    rcases Nat.lt_succ_iff_lt_or_eq.1 hi with h1 | rfl
    · exact hok i h1
    · exact h
  have hlo : lineOkB ls k = if k + 1 = ls.length then decide (ls[k] = [] ∧ 0 < k) else if k = 0 then (thingsR ls[k]).isSome else (eventR ls[k]).isSome := by
    unfold lineOkB
    rw [hlk]
    by_cases e0 : k = 0
    · subst e0; rw [hlk]
    · rw [if_neg e0, if_neg e0]
  by_cases hlast : k + 1 = ls.length
  · rw [if_pos hlast] at hlo
    rw [join_one hlast]
    by_cases hemp : ls[k] = [] ∧ 0 < k
    · rw [decide_eq_true hemp] at hlo
      have hall := hnx hlo
      rw [hlast] at hall
      rw [badLine_none hall] at hR
      dsimp only at hR
      have hye := callsR_y (tysK ls) (evsK ls (ls.length - 1))
      have htk : tyAt ls k = tysK ls := if_neg (by omega)
      have hek : evAt ls k = evsK ls (ls.length - 1) := by
        unfold evAt
        rw [show min k (ls.length - 1) = ls.length - 1 by omega]
      have hel : (evsK ls (ls.length - 1)).length ≤ 8192 := by rw [evsK_len]; omega
      have htl : (tysK ls).length ≤ 4 := by
        unfold tysK
        cases ht : thingsR (lnK ls 0) with
        | none => exact Nat.zero_le _
        | some t => exact (thingsR_ok ht).1
      rw [htk, hek]
      clear hok htk hek hpl hbad hnx hlo hall hjl
      generalize tysK ls = K at *
      generalize evsK ls (ls.length - 1) = E at *
      have h1 := fun w h1 h2 => callsOf_any A3 A4 c3 c4 K E w (by omega) (by omega) h1 h2
      obtain ⟨cs, y, z, hcr⟩ : ∃ cs y z, callsR K E = (cs, y, z) := ⟨_, _, _, rfl⟩
      rw [hcr] at h1 hR hye
      dsimp only at h1 hR hye
      repeat' (first | ((first | with_reducible (first | apply TL_q | apply TD_q0 | apply TD_q1 | apply TD_q2 | apply TD_q3) | ((with_reducible (first | apply TD_q0y | apply TD_q1y)); exact rfl; exact rfl; (with_reducible exact rfl))); (first | ((with_reducible apply QS_lenStr Tryd.underlying9); exact rfl) | ((with_reducible apply QS_eqlBs); exact rfl; exact rfl) | ((with_reducible apply QS_neqBs (a := ls[k]) (b := [])); exact rfl; exact rfl) | ((with_reducible apply QS_neqBs (a := textB (typesL l0) []) (b := l0 ++ [10])); exact rfl; exact rfl) | ((with_reducible apply QS_addBs (a := l0) (b := [10])); exact rfl; exact rfl; ((try simp only [List.length_cons, List.length_nil]); omega)) | ((with_reducible apply QS_sliceLow (l := 1)); exact rfl; exact rfl; omega) | ((with_reducible apply QS_index (o' := j + 1)); exact rfl; exact rfl; omega; omega) | exact QS.auto); exact rfl) | (refine GG ?_) | (refine GE ?_; (first | (rintro _ _ ⟨rfl, rfl⟩) | (rintro _ _ ⟨g, rfl, rfl⟩) | (rintro _ _ ⟨A', c', rfl, rfl⟩)); (try refine ⟨SUB, ?_⟩)) | ((refine GO2 ?_ ?_) <;> intro h <;> (try (repeat (first | with_reducible (replace h := of_decide_eq_true h) | with_reducible (replace h := of_decide_eq_false h) | with_reducible (replace h := bnt h) | with_reducible (replace h := bnf h) | with_reducible (replace h := Int.not_lt.mp h) | with_reducible (replace h := Int.not_le.mp h) | with_reducible (replace h := band_dec h) | with_reducible (replace h := band_decF h) | with_reducible (replace h := bor_dec h) | with_reducible (replace h := bor_decF h)))) <;> (try (exfalso; first | contradiction | omega))) | (refine GOF ?_ ?_) | ((with_reducible (first | apply TD_e2z | apply TD_e3z | apply TL_e | apply TD_e2 | apply TD_e3)); ((with_reducible apply ES_callV (f := 28)); exact rfl; (intro w hw; exact cut_last hfree w (by omega) (hT.carry (hw.below0 rfl))); exact rfl); (first | exact rfl | exact ⟨rfl, rfl, rfl⟩); (rintro _ _ ⟨rfl, rfl⟩); (try refine ⟨SUB, ?_⟩)) | ((with_reducible (first | apply TD_e2z | apply TD_e3z | apply TL_e | apply TD_e2 | apply TD_e3)); ((with_reducible apply ES_callOwn (f := 6)); exact rfl; (intro w hw; exact h1 w (hw.ownRd (by first | ((repeat (first | with_reducible exact List.mem_cons_self | with_reducible apply List.mem_cons_of_mem)); done) | (repeat (first | exact List.Mem.head _ | apply List.Mem.tail))) (fun _ => rfl)) (hw.ownRd (by first | ((repeat (first | with_reducible exact List.mem_cons_self | with_reducible apply List.mem_cons_of_mem)); done) | (repeat (first | exact List.Mem.head _ | apply List.Mem.tail))) (fun _ => rfl))); exact rfl); (first | exact rfl | exact ⟨rfl, rfl, rfl⟩); (rintro _ _ ⟨A5, c5, rfl, rfl⟩); (try refine ⟨SUB, ?_⟩)) | fail)
      all_goals first | (exfalso; omega) | (exfalso; exact (by assumption : ¬ ls[k] = []) hemp.1) | (exfalso; have h0 : decide (ls[k] = []) = false := (by assumption); rw [decide_eq_true hemp.1] at h0; cases h0) | skip
      all_goals first
        | (have hz : z = 2 := by assumption
           (refine At_ret Tryd.results8 rfl (fun w' hw => ?_))
           rw [hR, if_pos hz, hz]
           exact ⟨((none, 0), (none, 0)), rfl, (((hw.nilOwn Ev.enc 4 36).nilOwn intEnc 1 3).anyN 0).sel (by (repeat (first | exact Sel.nil _ | (apply Sel.cons; (repeat (first | with_reducible exact Pick.here _ _ | with_reducible apply Pick.there))))))⟩)
        | (have hz : ¬ z = 2 := by assumption
           have hz0 : ¬ z = 0 := by assumption
           (refine At_ret Tryd.results8 rfl (fun w' hw => ?_))
           rw [hR, if_neg hz, if_pos hz0]
           exact ⟨((none, 0), (none, 0)), rfl, (((hw.nilOwn Ev.enc 4 36).nilOwn intEnc 1 3).anyN 0).sel (by (repeat (first | exact Sel.nil _ | (apply Sel.cons; (repeat (first | with_reducible exact Pick.here _ _ | with_reducible apply Pick.there))))))⟩)
        | (have hz : ¬ z = 2 := by assumption
           have hz0 : z = 0 := by assumption
           (refine At_ret Tryd.results8 rfl (fun w' hw => ?_))
           rw [hR, if_neg hz, if_neg (fun h => h hz0)]
           exact ⟨((A3, c3), (A4, c4)), rfl, (hw.anyN 0).sel (by (repeat (first | exact Sel.nil _ | (apply Sel.cons; (repeat (first | with_reducible exact Pick.here _ _ | with_reducible apply Pick.there))))))⟩)
    · rw [decide_eq_false hemp] at hlo
      have hbad := hbad hlo
      have hemp' : ls[k] = [] → ¬ ((k : Nat) : Int) = 0 → False := fun a b => hemp ⟨a, by omega⟩
      clear hlo hnx hR hjl
      generalize evAt ls k = E at *
      generalize tyAt ls k = K at *
      repeat' (first | ((first | with_reducible (first | apply TL_q | apply TD_q0 | apply TD_q1 | apply TD_q2 | apply TD_q3) | ((with_reducible (first | apply TD_q0y | apply TD_q1y)); exact rfl; exact rfl; (with_reducible exact rfl))); (first | ((with_reducible apply QS_lenStr Tryd.underlying9); exact rfl) | ((with_reducible apply QS_eqlBs); exact rfl; exact rfl) | ((with_reducible apply QS_neqBs (a := ls[k]) (b := [])); exact rfl; exact rfl) | ((with_reducible apply QS_neqBs (a := textB (typesL l0) []) (b := l0 ++ [10])); exact rfl; exact rfl) | ((with_reducible apply QS_addBs (a := l0) (b := [10])); exact rfl; exact rfl; ((try simp only [List.length_cons, List.length_nil]); omega)) | ((with_reducible apply QS_sliceLow (l := 1)); exact rfl; exact rfl; omega) | ((with_reducible apply QS_index (o' := j + 1)); exact rfl; exact rfl; omega; omega) | exact QS.auto); exact rfl) | (refine GG ?_) | (refine GE ?_; (first | (rintro _ _ ⟨rfl, rfl⟩) | (rintro _ _ ⟨g, rfl, rfl⟩) | (rintro _ _ ⟨A', c', rfl, rfl⟩)); (try refine ⟨SUB, ?_⟩)) | ((refine GO2 ?_ ?_) <;> intro h <;> (try (repeat (first | with_reducible (replace h := of_decide_eq_true h) | with_reducible (replace h := of_decide_eq_false h) | with_reducible (replace h := bnt h) | with_reducible (replace h := bnf h) | with_reducible (replace h := Int.not_lt.mp h) | with_reducible (replace h := Int.not_le.mp h) | with_reducible (replace h := band_dec h) | with_reducible (replace h := band_decF h) | with_reducible (replace h := bor_dec h) | with_reducible (replace h := bor_decF h)))) <;> (try (exfalso; first | contradiction | omega))) | (refine GOF ?_ ?_) | ((with_reducible (first | apply TD_e2z | apply TD_e3z | apply TL_e | apply TD_e2 | apply TD_e3)); ((with_reducible apply ES_callV (f := 28)); exact rfl; (intro w hw; exact cut_last hfree w (by omega) (hT.carry (hw.below0 rfl))); exact rfl); (first | exact rfl | exact ⟨rfl, rfl, rfl⟩); (rintro _ _ ⟨rfl, rfl⟩); (try refine ⟨SUB, ?_⟩)) | fail)
      all_goals first | (exfalso; omega) | (exfalso; exact hemp' (by assumption) (by assumption)) | (exfalso; exact hemp' (of_decide_eq_true (by assumption)) (by assumption)) | skip
      all_goals
        (refine At_ret Tryd.results8 rfl (fun w' hw => ?_))
        rw [hbad]
        exact ⟨((none, 0), (none, 0)), rfl, (((hw.nilOwn Ev.enc 4 36).nilOwn intEnc 1 3).anyN 0).sel (by (repeat (first | exact Sel.nil _ | (apply Sel.cons; (repeat (first | with_reducible exact Pick.here _ _ | with_reducible apply Pick.there))))))⟩
  have hmore : k + 1 < ls.length := by omega
  rw [if_neg hlast] at hlo
  have hjm := join_more hmore
  rw [hjm] at hjl ⊢
  have hjl2 : (joinL 10 (ls.drop (k + 1))).length ≤ 8192 := by
    rw [List.length_append, List.length_cons] at hjl; omega
  clear hjm hR hok
  by_cases hk0 : k = 0
  · rw [if_pos hk0] at hlo
    have htk : tyAt ls (k + 1) = (thingsR ls[k]).getD [] := by
      unfold tyAt tysK
      rw [if_neg (by omega), ← hlk, hk0]
    have hek : evAt ls (k + 1) = evAt ls k := by
      unfold evAt
      rw [hk0, show min (0 + 1) (ls.length - 1) = 1 by omega, show min 0 (ls.length - 1) = 0 by omega]; rfl
    have ht0 : tyAt ls k = [] := if_pos hk0
    rw [ht0]
    obtain ⟨l0, hl0⟩ : ∃ x, x = ls[k] := ⟨_, rfl⟩
    rw [← hl0] at hfree hpk hlo htk hjl ⊢
    have hTD := thingsDoc l0
    have hws1 := splitL_ne 32 l0
    have hws2 := splitL_len 32 l0
    have hsp := fun w h => split_any 32 l0 w (by omega) h
    have hty : typesL l0 = (splitL 32 l0).tail.filterMap tyOf := rfl
    obtain ⟨ws, hws⟩ : ∃ ws, ws = splitL 32 l0 := ⟨_, rfl⟩
    rw [← hws] at hws1 hws2 hsp hty
    have hwp : 0 < ws.length := by
      rcases hx : ws with _ | ⟨a, b⟩
      · exact absurd hx hws1
      · simp
    clear hws hws1 hl0 hlk
    generalize evAt ls k = E at *
    repeat' (first | ((first | with_reducible (first | apply TL_q | apply TD_q0 | apply TD_q1 | apply TD_q2 | apply TD_q3) | ((with_reducible (first | apply TD_q0y | apply TD_q1y)); exact rfl; exact rfl; (with_reducible exact rfl))); (first | ((with_reducible apply QS_lenStr Tryd.underlying9); exact rfl) | ((with_reducible apply QS_eqlBs); exact rfl; exact rfl) | ((with_reducible apply QS_neqBs (a := ls[k]) (b := [])); exact rfl; exact rfl) | ((with_reducible apply QS_neqBs (a := textB (typesL l0) []) (b := l0 ++ [10])); exact rfl; exact rfl) | ((with_reducible apply QS_addBs (a := l0) (b := [10])); exact rfl; exact rfl; ((try simp only [List.length_cons, List.length_nil]); omega)) | ((with_reducible apply QS_sliceLow (l := 1)); exact rfl; exact rfl; omega) | ((with_reducible apply QS_index (o' := j + 1)); exact rfl; exact rfl; omega; omega) | exact QS.auto); exact rfl) | (refine GG ?_) | (refine GE ?_; (first | (rintro _ _ ⟨rfl, rfl⟩) | (rintro _ _ ⟨g, rfl, rfl⟩) | (rintro _ _ ⟨A', c', rfl, rfl⟩)); (try refine ⟨SUB, ?_⟩)) | ((refine GO2 ?_ ?_) <;> intro h <;> (try (repeat (first | with_reducible (replace h := of_decide_eq_true h) | with_reducible (replace h := of_decide_eq_false h) | with_reducible (replace h := bnt h) | with_reducible (replace h := bnf h) | with_reducible (replace h := Int.not_lt.mp h) | with_reducible (replace h := Int.not_le.mp h) | with_reducible (replace h := band_dec h) | with_reducible (replace h := band_decF h) | with_reducible (replace h := bor_dec h) | with_reducible (replace h := bor_decF h)))) <;> (try (exfalso; first | contradiction | omega))) | (refine GOF ?_ ?_) | ((with_reducible (first | apply TD_e2z | apply TD_e3z | apply TL_e | apply TD_e2 | apply TD_e3)); ((with_reducible apply ES_callV (f := 28)); exact rfl; (intro w hw; exact cut_more hfree w (by omega) (hT.carry (hw.below0 rfl))); exact rfl); (first | exact rfl | exact ⟨rfl, rfl, rfl⟩); (rintro _ _ ⟨rfl, rfl⟩); (try refine ⟨SUB, ?_⟩)) | ((with_reducible (first | apply TD_e2z | apply TD_e3z | apply TL_e | apply TD_e2 | apply TD_e3)); ((with_reducible apply ES_callOwn (f := 18)); exact rfl; (intro w hw; exact hsp w (hT.carry (hw.below0 rfl))); exact rfl); (first | exact rfl | exact ⟨rfl, rfl, rfl⟩); (rintro _ _ ⟨A1, c1, rfl, rfl⟩); (try refine ⟨SUB, ?_⟩)) | fail)
    all_goals first | (exfalso; omega) | skip
    refine TL_fact (p := ws.length ≤ c1 ∧ (A1 = none → c1 = 0)) (fun w hw => hw.ownFacts (enc := strEnc) (M := 1) (et := 9) (by first | ((repeat (first | with_reducible exact List.mem_cons_self | with_reducible apply List.mem_cons_of_mem)); done) | (repeat (first | exact List.Mem.head _ | apply List.Mem.tail)))) fun hf => ?_
    refine TL_own (enc := strEnc) (ls := ws) (by first | ((repeat (first | with_reducible exact List.mem_cons_self | with_reducible apply List.mem_cons_of_mem)); done) | (repeat (first | exact List.Mem.head _ | apply List.Mem.tail))) (by omega) ?_
    rintro g1 rfl
    repeat' (first | ((first | with_reducible (first | apply TL_q | apply TD_q0 | apply TD_q1 | apply TD_q2 | apply TD_q3) | ((with_reducible (first | apply TD_q0y | apply TD_q1y)); exact rfl; exact rfl; (with_reducible exact rfl))); (first | ((with_reducible apply QS_lenStr Tryd.underlying9); exact rfl) | ((with_reducible apply QS_eqlBs); exact rfl; exact rfl) | ((with_reducible apply QS_neqBs (a := ls[k]) (b := [])); exact rfl; exact rfl) | ((with_reducible apply QS_neqBs (a := textB (typesL l0) []) (b := l0 ++ [10])); exact rfl; exact rfl) | ((with_reducible apply QS_addBs (a := l0) (b := [10])); exact rfl; exact rfl; ((try simp only [List.length_cons, List.length_nil]); omega)) | ((with_reducible apply QS_sliceLow (l := 1)); exact rfl; exact rfl; omega) | ((with_reducible apply QS_index (o' := j + 1)); exact rfl; exact rfl; omega; omega) | exact QS.auto); exact rfl) | (refine GG ?_) | (refine GE ?_; (first | (rintro _ _ ⟨rfl, rfl⟩) | (rintro _ _ ⟨g, rfl, rfl⟩) | (rintro _ _ ⟨A', c', rfl, rfl⟩)); (try refine ⟨SUB, ?_⟩)) | ((refine GO2 ?_ ?_) <;> intro h <;> (try (repeat (first | with_reducible (replace h := of_decide_eq_true h) | with_reducible (replace h := of_decide_eq_false h) | with_reducible (replace h := bnt h) | with_reducible (replace h := bnf h) | with_reducible (replace h := Int.not_lt.mp h) | with_reducible (replace h := Int.not_le.mp h) | with_reducible (replace h := band_dec h) | with_reducible (replace h := band_decF h) | with_reducible (replace h := bor_dec h) | with_reducible (replace h := bor_decF h)))) <;> (try (exfalso; first | contradiction | omega))) | (refine GOF ?_ ?_) | fail)
    all_goals first | (exfalso; omega) | skip
    obtain ⟨off, hoff⟩ : ∃ off, off = (if c1 = 1 then 0 else 0 + 1 * 1) := ⟨_, rfl⟩
    rw [← hoff]
    have hoff1 : 1 < ws.length → off = 1 := fun h => by rw [hoff, if_neg (by omega)]
    clear hoff
    refine T_loop (X := Nat × (Option Addr × Nat)) (fun x => [(47, .int .i64 (x.1 : Nat)), (46, .int .i64 ((ws.length - 1 : Nat) : Int)), (45, .slice (some ⟨g1, off, none⟩) (ws.length - 1) (c1 - 1)), (6, .slice x.2.1 (tyAcc ws x.1).length x.2.2), (8, .int .i64 (k : Nat)), (9, bsv l0), (0, bsv (joinL 10 (ls.drop (k + 1)))), (7, .slice A4 E.length c4)]) (fun x => [entOwn intEnc 1 3 x.2.1 x.2.2 (tyAcc ws x.1), entOwn Ev.enc 4 36 A4 c4 E, entOwn strEnc 1 9 (some ⟨g1, 0, none⟩) c1 ws])
      (fun x => x.1 ≤ ws.length - 1) (fun x => ws.length - 1 - x.1) (0, (A3, c3)) (by (try dsimp only); omega) (by (try dsimp only); (repeat (first | exact SubE.nil _ | refine SubE.cons rfl ?_))) (fun w' hw => by (try dsimp only); rw [show tyAcc ws 0 = [] from rfl]; exact hw.sel (by (repeat (first | exact Sel.nil _ | (apply Sel.cons; (repeat (first | with_reducible exact Pick.here _ _ | with_reducible apply Pick.there))))))) ?_
    rintro ⟨j, ⟨A5, c5⟩⟩ hj
    dsimp only at hj ⊢
    by_cases hjl : j < ws.length - 1
    · obtain rfl := hoff1 (by omega)
      have hj1 : j + 1 < ws.length := by omega
      have hts := tyAcc_succ hj1
      have htl := tyAcc_len ws j
      generalize tyAcc ws j = K at *
      repeat' (first | ((first | with_reducible (first | apply TL_q | apply TD_q0 | apply TD_q1 | apply TD_q2 | apply TD_q3) | ((with_reducible (first | apply TD_q0y | apply TD_q1y)); exact rfl; exact rfl; (with_reducible exact rfl))); (first | ((with_reducible apply QS_lenStr Tryd.underlying9); exact rfl) | ((with_reducible apply QS_eqlBs); exact rfl; exact rfl) | ((with_reducible apply QS_neqBs (a := ls[k]) (b := [])); exact rfl; exact rfl) | ((with_reducible apply QS_neqBs (a := textB (typesL l0) []) (b := l0 ++ [10])); exact rfl; exact rfl) | ((with_reducible apply QS_addBs (a := l0) (b := [10])); exact rfl; exact rfl; ((try simp only [List.length_cons, List.length_nil]); omega)) | ((with_reducible apply QS_sliceLow (l := 1)); exact rfl; exact rfl; omega) | ((with_reducible apply QS_index (o' := j + 1)); exact rfl; exact rfl; omega; omega) | exact QS.auto); exact rfl) | (refine GG ?_) | (refine GE ?_; (first | (rintro _ _ ⟨rfl, rfl⟩) | (rintro _ _ ⟨g, rfl, rfl⟩) | (rintro _ _ ⟨A', c', rfl, rfl⟩)); (try refine ⟨SUB, ?_⟩)) | ((refine GO2 ?_ ?_) <;> intro h <;> (try (repeat (first | with_reducible (replace h := of_decide_eq_true h) | with_reducible (replace h := of_decide_eq_false h) | with_reducible (replace h := bnt h) | with_reducible (replace h := bnf h) | with_reducible (replace h := Int.not_lt.mp h) | with_reducible (replace h := Int.not_le.mp h) | with_reducible (replace h := band_dec h) | with_reducible (replace h := band_decF h) | with_reducible (replace h := bor_dec h) | with_reducible (replace h := bor_decF h)))) <;> (try (exfalso; first | contradiction | omega))) | (refine GOF ?_ ?_) | fail)
      all_goals first | (exfalso; omega) | skip
      refine T_loop (X := Nat × (Option Addr × Nat)) (fun x => [(14, .int .i64 (x.1 : Nat)), (13, bsv ws[j + 1]), (6, .slice x.2.1 (K ++ tyTo ws[j + 1] x.1).length x.2.2), (47, .int .i64 (j : Nat)), (46, .int .i64 ((ws.length - 1 : Nat) : Int)), (45, .slice (some ⟨g1, 1, none⟩) (ws.length - 1) (c1 - 1)), (8, .int .i64 (k : Nat)), (9, bsv l0), (0, bsv (joinL 10 (ls.drop (k + 1)))), (7, .slice A4 E.length c4)]) (fun x => [entOwn intEnc 1 3 x.2.1 x.2.2 (K ++ tyTo ws[j + 1] x.1), entOwn Ev.enc 4 36 A4 c4 E, entOwn strEnc 1 9 (some ⟨g1, 0, none⟩) c1 ws])
        (fun x => 1 ≤ x.1 ∧ x.1 ≤ 6) (fun x => 6 - x.1) (1, (A5, c5)) ⟨by (try dsimp only); omega, by (try dsimp only); omega⟩ (by (try dsimp only); rw [tyTo_one, List.append_nil]; (repeat (first | exact SubE.nil _ | refine SubE.cons rfl ?_))) (fun w' hw => by (try dsimp only); rw [tyTo_one, List.append_nil]; exact hw.sel (by (repeat (first | exact Sel.nil _ | (apply Sel.cons; (repeat (first | with_reducible exact Pick.here _ _ | with_reducible apply Pick.there))))))) ?_
      rintro ⟨t, ⟨A6, c6⟩⟩ ⟨ht1, ht6⟩
      dsimp only at ht1 ht6 ⊢
      have htt := tyTo_len ws[j + 1] t
      by_cases ht : t < 6
      · by_cases hwd : typeW.getD ((t : Nat) : Int).toNat [] = ws[j + 1]
        · obtain ⟨hy0, hy1⟩ := tyTo_yes ht1 ht (w := ws[j + 1]) hwd
          rw [hy0, List.append_nil]
          repeat' (first | ((first | with_reducible (first | apply TL_q | apply TD_q0 | apply TD_q1 | apply TD_q2 | apply TD_q3) | ((with_reducible (first | apply TD_q0y | apply TD_q1y)); exact rfl; exact rfl; (with_reducible exact rfl))); (first | ((with_reducible apply QS_lenStr Tryd.underlying9); exact rfl) | ((with_reducible apply QS_eqlBs); exact rfl; exact rfl) | ((with_reducible apply QS_neqBs (a := ls[k]) (b := [])); exact rfl; exact rfl) | ((with_reducible apply QS_neqBs (a := textB (typesL l0) []) (b := l0 ++ [10])); exact rfl; exact rfl) | ((with_reducible apply QS_addBs (a := l0) (b := [10])); exact rfl; exact rfl; ((try simp only [List.length_cons, List.length_nil]); omega)) | ((with_reducible apply QS_sliceLow (l := 1)); exact rfl; exact rfl; omega) | ((with_reducible apply QS_index (o' := j + 1)); exact rfl; exact rfl; omega; omega) | exact QS.auto); exact rfl) | (refine GG ?_) | (refine GE ?_; (first | (rintro _ _ ⟨rfl, rfl⟩) | (rintro _ _ ⟨g, rfl, rfl⟩) | (rintro _ _ ⟨A', c', rfl, rfl⟩)); (try refine ⟨SUB, ?_⟩)) | ((refine GO2 ?_ ?_) <;> intro h <;> (try (repeat (first | with_reducible (replace h := of_decide_eq_true h) | with_reducible (replace h := of_decide_eq_false h) | with_reducible (replace h := bnt h) | with_reducible (replace h := bnf h) | with_reducible (replace h := Int.not_lt.mp h) | with_reducible (replace h := Int.not_le.mp h) | with_reducible (replace h := band_dec h) | with_reducible (replace h := band_decF h) | with_reducible (replace h := bor_dec h) | with_reducible (replace h := bor_decF h)))) <;> (try (exfalso; first | contradiction | omega))) | (refine GOF ?_ ?_) | ((with_reducible (first | apply TD_e2z | apply TD_e3z | apply TL_e | apply TD_e2 | apply TD_e3)); ((with_reducible apply ES_callV (f := 26)); exact rfl; (intro w hw; exact typeWord_any _ w (by omega) (hT.carry (hw.below0 rfl))); exact rfl); (first | exact rfl | exact ⟨rfl, rfl, rfl⟩); (rintro _ _ ⟨rfl, rfl⟩); (try refine ⟨SUB, ?_⟩)) | ((with_reducible (first | apply TD_e2z | apply TD_e3z | apply TL_e | apply TD_e2 | apply TD_e3)); ((with_reducible apply ES_append1 (enc := intEnc) (xx := (t : Int))); exact rfl; exact rfl; (repeat (first | with_reducible exact List.mem_cons_self | with_reducible apply List.mem_cons_of_mem)); exact rfl; exact fun _ => rfl; exact fun _ => rfl; (intro A' c'; first | ((repeat (first | with_reducible exact Upd.here _ _ _ | with_reducible apply Upd.there)); done) | (repeat (first | exact Upd.here _ _ _ | apply Upd.there))); (omega); decide; exact rfl); (first | exact rfl | exact ⟨rfl, rfl, rfl⟩); (rintro _ _ ⟨A', c', rfl, rfl⟩); (try refine ⟨SUB, ?_⟩)) | fail)
          all_goals first | (exfalso; omega) | (exfalso; contradiction) | skip
          all_goals
            apply At_rounds (t + 1, (A', c'))
            (case hE => (try dsimp only); rw [hy1]; (repeat (first | exact SubE.nil _ | refine SubE.cons rfl ?_)))
            (case hS => (try dsimp only); rw [hy1]; exact fun w' hw => hw.sel (by (repeat (first | exact Sel.nil _ | (apply Sel.cons; (repeat (first | with_reducible exact Pick.here _ _ | with_reducible apply Pick.there)))))))
            (case hμ => (try dsimp only); omega)
            (case hp => exact ⟨by (try dsimp only); omega, by (try dsimp only); omega⟩)
        · have hy1 := tyTo_no ht (w := ws[j + 1]) hwd
          repeat' (first | ((first | with_reducible (first | apply TL_q | apply TD_q0 | apply TD_q1 | apply TD_q2 | apply TD_q3) | ((with_reducible (first | apply TD_q0y | apply TD_q1y)); exact rfl; exact rfl; (with_reducible exact rfl))); (first | ((with_reducible apply QS_lenStr Tryd.underlying9); exact rfl) | ((with_reducible apply QS_eqlBs); exact rfl; exact rfl) | ((with_reducible apply QS_neqBs (a := ls[k]) (b := [])); exact rfl; exact rfl) | ((with_reducible apply QS_neqBs (a := textB (typesL l0) []) (b := l0 ++ [10])); exact rfl; exact rfl) | ((with_reducible apply QS_addBs (a := l0) (b := [10])); exact rfl; exact rfl; ((try simp only [List.length_cons, List.length_nil]); omega)) | ((with_reducible apply QS_sliceLow (l := 1)); exact rfl; exact rfl; omega) | ((with_reducible apply QS_index (o' := j + 1)); exact rfl; exact rfl; omega; omega) | exact QS.auto); exact rfl) | (refine GG ?_) | (refine GE ?_; (first | (rintro _ _ ⟨rfl, rfl⟩) | (rintro _ _ ⟨g, rfl, rfl⟩) | (rintro _ _ ⟨A', c', rfl, rfl⟩)); (try refine ⟨SUB, ?_⟩)) | ((refine GO2 ?_ ?_) <;> intro h <;> (try (repeat (first | with_reducible (replace h := of_decide_eq_true h) | with_reducible (replace h := of_decide_eq_false h) | with_reducible (replace h := bnt h) | with_reducible (replace h := bnf h) | with_reducible (replace h := Int.not_lt.mp h) | with_reducible (replace h := Int.not_le.mp h) | with_reducible (replace h := band_dec h) | with_reducible (replace h := band_decF h) | with_reducible (replace h := bor_dec h) | with_reducible (replace h := bor_decF h)))) <;> (try (exfalso; first | contradiction | omega))) | (refine GOF ?_ ?_) | ((with_reducible (first | apply TD_e2z | apply TD_e3z | apply TL_e | apply TD_e2 | apply TD_e3)); ((with_reducible apply ES_callV (f := 26)); exact rfl; (intro w hw; exact typeWord_any _ w (by omega) (hT.carry (hw.below0 rfl))); exact rfl); (first | exact rfl | exact ⟨rfl, rfl, rfl⟩); (rintro _ _ ⟨rfl, rfl⟩); (try refine ⟨SUB, ?_⟩)) | fail)
          all_goals first | (exfalso; omega) | (exfalso; contradiction) | skip
          all_goals
            apply At_rounds (t + 1, (A6, c6))
            (case hE => (try dsimp only); rw [hy1]; (repeat (first | exact SubE.nil _ | refine SubE.cons rfl ?_)))
            (case hS => (try dsimp only); rw [hy1]; exact fun w' hw => hw.sel (by (repeat (first | exact Sel.nil _ | (apply Sel.cons; (repeat (first | with_reducible exact Pick.here _ _ | with_reducible apply Pick.there)))))))
            (case hμ => (try dsimp only); omega)
            (case hp => exact ⟨by (try dsimp only); omega, by (try dsimp only); omega⟩)
      · obtain rfl : t = 6 := by omega
        rw [← hts]
        repeat' (first | ((first | with_reducible (first | apply TL_q | apply TD_q0 | apply TD_q1 | apply TD_q2 | apply TD_q3) | ((with_reducible (first | apply TD_q0y | apply TD_q1y)); exact rfl; exact rfl; (with_reducible exact rfl))); (first | ((with_reducible apply QS_lenStr Tryd.underlying9); exact rfl) | ((with_reducible apply QS_eqlBs); exact rfl; exact rfl) | ((with_reducible apply QS_neqBs (a := ls[k]) (b := [])); exact rfl; exact rfl) | ((with_reducible apply QS_neqBs (a := textB (typesL l0) []) (b := l0 ++ [10])); exact rfl; exact rfl) | ((with_reducible apply QS_addBs (a := l0) (b := [10])); exact rfl; exact rfl; ((try simp only [List.length_cons, List.length_nil]); omega)) | ((with_reducible apply QS_sliceLow (l := 1)); exact rfl; exact rfl; omega) | ((with_reducible apply QS_index (o' := j + 1)); exact rfl; exact rfl; omega; omega) | exact QS.auto); exact rfl) | (refine GG ?_) | (refine GE ?_; (first | (rintro _ _ ⟨rfl, rfl⟩) | (rintro _ _ ⟨g, rfl, rfl⟩) | (rintro _ _ ⟨A', c', rfl, rfl⟩)); (try refine ⟨SUB, ?_⟩)) | ((refine GO2 ?_ ?_) <;> intro h <;> (try (repeat (first | with_reducible (replace h := of_decide_eq_true h) | with_reducible (replace h := of_decide_eq_false h) | with_reducible (replace h := bnt h) | with_reducible (replace h := bnf h) | with_reducible (replace h := Int.not_lt.mp h) | with_reducible (replace h := Int.not_le.mp h) | with_reducible (replace h := band_dec h) | with_reducible (replace h := band_decF h) | with_reducible (replace h := bor_dec h) | with_reducible (replace h := bor_decF h)))) <;> (try (exfalso; first | contradiction | omega))) | (refine GOF ?_ ?_) | fail)
        all_goals first | (exfalso; omega) | skip
        all_goals
          apply At_rounds (j + 1, (A6, c6))
          (case hE => (try dsimp only); (repeat (first | exact SubE.nil _ | refine SubE.cons rfl ?_)))
          (case hS => (try dsimp only); exact fun w' hw => hw.sel (by (repeat (first | exact Sel.nil _ | (apply Sel.cons; (repeat (first | with_reducible exact Pick.here _ _ | with_reducible apply Pick.there)))))))
          (case hμ => (try dsimp only); omega)
          (case hp => (try dsimp only); omega)
    · obtain rfl : j = ws.length - 1 := by omega
      have hKl := tyAcc_len ws (ws.length - 1)
      rw [tyAcc_end, ← hty] at hKl ⊢
      clear hty
      have htys := typesL_all l0
      have htx : textB (typesL l0) [] = l0 ++ [10] ↔ firstL (typesL l0) = l0 := by rw [textB_nil]; exact List.append_left_inj [10]
      by_cases hc : 1 ≤ (typesL l0).length ∧ (typesL l0).length ≤ 4
      · have hto := fun A c w h hT => textOf_any A none c 0 (typesL l0) [] w h (RdE.nil _) hT hc.2 htys (by simp) (by simp)
        obtain ⟨hc1, hc2⟩ := hc
        by_cases hfi : textB (typesL l0) [] = l0 ++ [10]
        · rw [if_pos ⟨hc1, hc2, htx.1 hfi⟩] at hTD
          rw [← hTD] at hlo htk
          replace htk : tyAt ls (k + 1) = typesL l0 := htk
          repeat' (first | ((first | with_reducible (first | apply TL_q | apply TD_q0 | apply TD_q1 | apply TD_q2 | apply TD_q3) | ((with_reducible (first | apply TD_q0y | apply TD_q1y)); exact rfl; exact rfl; (with_reducible exact rfl))); (first | ((with_reducible apply QS_lenStr Tryd.underlying9); exact rfl) | ((with_reducible apply QS_eqlBs); exact rfl; exact rfl) | ((with_reducible apply QS_neqBs (a := ls[k]) (b := [])); exact rfl; exact rfl) | ((with_reducible apply QS_neqBs (a := textB (typesL l0) []) (b := l0 ++ [10])); exact rfl; exact rfl) | ((with_reducible apply QS_addBs (a := l0) (b := [10])); exact rfl; exact rfl; ((try simp only [List.length_cons, List.length_nil]); omega)) | ((with_reducible apply QS_sliceLow (l := 1)); exact rfl; exact rfl; omega) | ((with_reducible apply QS_index (o' := j + 1)); exact rfl; exact rfl; omega; omega) | exact QS.auto); exact rfl) | (refine GG ?_) | (refine GE ?_; (first | (rintro _ _ ⟨rfl, rfl⟩) | (rintro _ _ ⟨g, rfl, rfl⟩) | (rintro _ _ ⟨A', c', rfl, rfl⟩)); (try refine ⟨SUB, ?_⟩)) | ((refine GO2 ?_ ?_) <;> intro h <;> (try (repeat (first | with_reducible (replace h := of_decide_eq_true h) | with_reducible (replace h := of_decide_eq_false h) | with_reducible (replace h := bnt h) | with_reducible (replace h := bnf h) | with_reducible (replace h := Int.not_lt.mp h) | with_reducible (replace h := Int.not_le.mp h) | with_reducible (replace h := band_dec h) | with_reducible (replace h := band_decF h) | with_reducible (replace h := bor_dec h) | with_reducible (replace h := bor_decF h)))) <;> (try (exfalso; first | contradiction | omega))) | (refine GOF ?_ ?_) | ((with_reducible (first | apply TD_e2z | apply TD_e3z | apply TL_e | apply TD_e2 | apply TD_e3)); ((with_reducible apply ES_callV (f := 21)); exact rfl; (intro w hw; exact Calls.same_below (between_any _ _ _ _)); exact rfl); (first | exact rfl | exact ⟨rfl, rfl, rfl⟩); (rintro _ _ ⟨rfl, rfl⟩); (try refine ⟨SUB, ?_⟩)) | ((with_reducible (first | apply TD_e2z | apply TD_e3z | apply TL_e | apply TD_e2 | apply TD_e3)); ((with_reducible apply ES_callV (f := 7)); exact rfl; (intro w hw; exact hto _ _ w (hw.ownRd (by first | ((repeat (first | with_reducible exact List.mem_cons_self | with_reducible apply List.mem_cons_of_mem)); done) | (repeat (first | exact List.Mem.head _ | apply List.Mem.tail))) (fun _ => rfl)) (hT.carry (hw.below0 rfl))); exact rfl); (first | exact rfl | exact ⟨rfl, rfl, rfl⟩); (rintro _ _ ⟨rfl, rfl⟩); (try refine ⟨SUB, ?_⟩)) | fail)
          all_goals first | (exfalso; omega) | (exfalso; contradiction) | skip
          all_goals
            apply At_rounds (k + 1, (A5, c5), (A4, c4))
            (case hE => (try dsimp only); rw [hek, htk]; (repeat (first | exact SubE.nil _ | refine SubE.cons rfl ?_)))
            (case hS => (try dsimp only); rw [hek, htk]; exact fun w' hw => hw.sel (by (repeat (first | exact Sel.nil _ | (apply Sel.cons; (repeat (first | with_reducible exact Pick.here _ _ | with_reducible apply Pick.there)))))))
            (case hμ => (try dsimp only); omega)
            (case hp => exact ⟨hmore, hnx hlo, hjl2⟩)
        · rw [if_neg (fun h => hfi (htx.2 h.2.2))] at hTD
          rw [← hTD] at hlo
          have hbad := hbad hlo
          rw [hk0] at hbad
          repeat' (first | ((first | with_reducible (first | apply TL_q | apply TD_q0 | apply TD_q1 | apply TD_q2 | apply TD_q3) | ((with_reducible (first | apply TD_q0y | apply TD_q1y)); exact rfl; exact rfl; (with_reducible exact rfl))); (first | ((with_reducible apply QS_lenStr Tryd.underlying9); exact rfl) | ((with_reducible apply QS_eqlBs); exact rfl; exact rfl) | ((with_reducible apply QS_neqBs (a := ls[k]) (b := [])); exact rfl; exact rfl) | ((with_reducible apply QS_neqBs (a := textB (typesL l0) []) (b := l0 ++ [10])); exact rfl; exact rfl) | ((with_reducible apply QS_addBs (a := l0) (b := [10])); exact rfl; exact rfl; ((try simp only [List.length_cons, List.length_nil]); omega)) | ((with_reducible apply QS_sliceLow (l := 1)); exact rfl; exact rfl; omega) | ((with_reducible apply QS_index (o' := j + 1)); exact rfl; exact rfl; omega; omega) | exact QS.auto); exact rfl) | (refine GG ?_) | (refine GE ?_; (first | (rintro _ _ ⟨rfl, rfl⟩) | (rintro _ _ ⟨g, rfl, rfl⟩) | (rintro _ _ ⟨A', c', rfl, rfl⟩)); (try refine ⟨SUB, ?_⟩)) | ((refine GO2 ?_ ?_) <;> intro h <;> (try (repeat (first | with_reducible (replace h := of_decide_eq_true h) | with_reducible (replace h := of_decide_eq_false h) | with_reducible (replace h := bnt h) | with_reducible (replace h := bnf h) | with_reducible (replace h := Int.not_lt.mp h) | with_reducible (replace h := Int.not_le.mp h) | with_reducible (replace h := band_dec h) | with_reducible (replace h := band_decF h) | with_reducible (replace h := bor_dec h) | with_reducible (replace h := bor_decF h)))) <;> (try (exfalso; first | contradiction | omega))) | (refine GOF ?_ ?_) | ((with_reducible (first | apply TD_e2z | apply TD_e3z | apply TL_e | apply TD_e2 | apply TD_e3)); ((with_reducible apply ES_callV (f := 21)); exact rfl; (intro w hw; exact Calls.same_below (between_any _ _ _ _)); exact rfl); (first | exact rfl | exact ⟨rfl, rfl, rfl⟩); (rintro _ _ ⟨rfl, rfl⟩); (try refine ⟨SUB, ?_⟩)) | ((with_reducible (first | apply TD_e2z | apply TD_e3z | apply TL_e | apply TD_e2 | apply TD_e3)); ((with_reducible apply ES_callV (f := 7)); exact rfl; (intro w hw; exact hto _ _ w (hw.ownRd (by first | ((repeat (first | with_reducible exact List.mem_cons_self | with_reducible apply List.mem_cons_of_mem)); done) | (repeat (first | exact List.Mem.head _ | apply List.Mem.tail))) (fun _ => rfl)) (hT.carry (hw.below0 rfl))); exact rfl); (first | exact rfl | exact ⟨rfl, rfl, rfl⟩); (rintro _ _ ⟨rfl, rfl⟩); (try refine ⟨SUB, ?_⟩)) | fail)
          all_goals first | (exfalso; omega) | (exfalso; contradiction) | skip
          all_goals
            (refine At_ret Tryd.results8 rfl (fun w' hw => ?_))
            rw [hbad]
            exact ⟨((none, 0), (none, 0)), rfl, (((hw.nilOwn Ev.enc 4 36).nilOwn intEnc 1 3).anyN 0).sel (by (repeat (first | exact Sel.nil _ | (apply Sel.cons; (repeat (first | with_reducible exact Pick.here _ _ | with_reducible apply Pick.there))))))⟩
      · rw [if_neg (fun h => hc ⟨h.1, h.2.1⟩)] at hTD
        rw [← hTD] at hlo
        have hbad := hbad hlo
        rw [hk0] at hbad
        repeat' (first | ((first | with_reducible (first | apply TL_q | apply TD_q0 | apply TD_q1 | apply TD_q2 | apply TD_q3) | ((with_reducible (first | apply TD_q0y | apply TD_q1y)); exact rfl; exact rfl; (with_reducible exact rfl))); (first | ((with_reducible apply QS_lenStr Tryd.underlying9); exact rfl) | ((with_reducible apply QS_eqlBs); exact rfl; exact rfl) | ((with_reducible apply QS_neqBs (a := ls[k]) (b := [])); exact rfl; exact rfl) | ((with_reducible apply QS_neqBs (a := textB (typesL l0) []) (b := l0 ++ [10])); exact rfl; exact rfl) | ((with_reducible apply QS_addBs (a := l0) (b := [10])); exact rfl; exact rfl; ((try simp only [List.length_cons, List.length_nil]); omega)) | ((with_reducible apply QS_sliceLow (l := 1)); exact rfl; exact rfl; omega) | ((with_reducible apply QS_index (o' := j + 1)); exact rfl; exact rfl; omega; omega) | exact QS.auto); exact rfl) | (refine GG ?_) | (refine GE ?_; (first | (rintro _ _ ⟨rfl, rfl⟩) | (rintro _ _ ⟨g, rfl, rfl⟩) | (rintro _ _ ⟨A', c', rfl, rfl⟩)); (try refine ⟨SUB, ?_⟩)) | ((refine GO2 ?_ ?_) <;> intro h <;> (try (repeat (first | with_reducible (replace h := of_decide_eq_true h) | with_reducible (replace h := of_decide_eq_false h) | with_reducible (replace h := bnt h) | with_reducible (replace h := bnf h) | with_reducible (replace h := Int.not_lt.mp h) | with_reducible (replace h := Int.not_le.mp h) | with_reducible (replace h := band_dec h) | with_reducible (replace h := band_decF h) | with_reducible (replace h := bor_dec h) | with_reducible (replace h := bor_decF h)))) <;> (try (exfalso; first | contradiction | omega))) | (refine GOF ?_ ?_) | ((with_reducible (first | apply TD_e2z | apply TD_e3z | apply TL_e | apply TD_e2 | apply TD_e3)); ((with_reducible apply ES_callV (f := 21)); exact rfl; (intro w hw; exact Calls.same_below (between_any _ _ _ _)); exact rfl); (first | exact rfl | exact ⟨rfl, rfl, rfl⟩); (rintro _ _ ⟨rfl, rfl⟩); (try refine ⟨SUB, ?_⟩)) | fail)
        all_goals first | (exfalso; omega) | (exfalso; exact hc ⟨by omega, by omega⟩) | skip
        all_goals
          (refine At_ret Tryd.results8 rfl (fun w' hw => ?_))
          rw [hbad]
          exact ⟨((none, 0), (none, 0)), rfl, (((hw.nilOwn Ev.enc 4 36).nilOwn intEnc 1 3).anyN 0).sel (by (repeat (first | exact Sel.nil _ | (apply Sel.cons; (repeat (first | with_reducible exact Pick.here _ _ | with_reducible apply Pick.there))))))⟩
  · rw [if_neg hk0] at hlo
    have htk : tyAt ls (k + 1) = tyAt ls k := by unfold tyAt; rw [if_neg (by omega), if_neg hk0]
    have hek : evAt ls (k + 1) = evAt ls k ++ [(eventR ls[k]).getD ⟨0, 0, 0, 0⟩] := by
      unfold evAt
      obtain ⟨j, rfl⟩ : ∃ j, k = j + 1 := ⟨k - 1, by omega⟩
      rw [show min (j + 1 + 1) (ls.length - 1) = j + 2 by omega, show min (j + 1) (ls.length - 1) = j + 1 by omega, evsK_succ, hlk]
    have hel : (evAt ls k).length ≤ 8192 := by unfold evAt; rw [evsK_len]; omega
    generalize evAt ls k = E at *
    generalize tyAt ls k = K at *
    repeat' (first | ((first | with_reducible (first | apply TL_q | apply TD_q0 | apply TD_q1 | apply TD_q2 | apply TD_q3) | ((with_reducible (first | apply TD_q0y | apply TD_q1y)); exact rfl; exact rfl; (with_reducible exact rfl))); (first | ((with_reducible apply QS_lenStr Tryd.underlying9); exact rfl) | ((with_reducible apply QS_eqlBs); exact rfl; exact rfl) | ((with_reducible apply QS_neqBs (a := ls[k]) (b := [])); exact rfl; exact rfl) | ((with_reducible apply QS_neqBs (a := textB (typesL l0) []) (b := l0 ++ [10])); exact rfl; exact rfl) | ((with_reducible apply QS_addBs (a := l0) (b := [10])); exact rfl; exact rfl; ((try simp only [List.length_cons, List.length_nil]); omega)) | ((with_reducible apply QS_sliceLow (l := 1)); exact rfl; exact rfl; omega) | ((with_reducible apply QS_index (o' := j + 1)); exact rfl; exact rfl; omega; omega) | exact QS.auto); exact rfl) | (refine GG ?_) | (refine GE ?_; (first | (rintro _ _ ⟨rfl, rfl⟩) | (rintro _ _ ⟨g, rfl, rfl⟩) | (rintro _ _ ⟨A', c', rfl, rfl⟩)); (try refine ⟨SUB, ?_⟩)) | ((refine GO2 ?_ ?_) <;> intro h <;> (try (repeat (first | with_reducible (replace h := of_decide_eq_true h) | with_reducible (replace h := of_decide_eq_false h) | with_reducible (replace h := bnt h) | with_reducible (replace h := bnf h) | with_reducible (replace h := Int.not_lt.mp h) | with_reducible (replace h := Int.not_le.mp h) | with_reducible (replace h := band_dec h) | with_reducible (replace h := band_decF h) | with_reducible (replace h := bor_dec h) | with_reducible (replace h := bor_decF h)))) <;> (try (exfalso; first | contradiction | omega))) | (refine GOF ?_ ?_) | ((with_reducible (first | apply TD_e2z | apply TD_e3z | apply TL_e | apply TD_e2 | apply TD_e3)); ((with_reducible apply ES_callV (f := 28)); exact rfl; (intro w hw; exact cut_more hfree w (by omega) (hT.carry (hw.below0 rfl))); exact rfl); (first | exact rfl | exact ⟨rfl, rfl, rfl⟩); (rintro _ _ ⟨rfl, rfl⟩); (try refine ⟨SUB, ?_⟩)) | fail)
    all_goals first | (exfalso; omega) | skip
    ((with_reducible (first | apply TD_e2z | apply TD_e3z | apply TL_e | apply TD_e2 | apply TD_e3)); ((with_reducible apply ES_callX (f := 29) (X := EvTo ls[k]) (S1 := []) (fun x => .tuple #[.agg (Ev.enc x.1).toArray, .bool (eventR ls[k]).isSome]) (fun _ => [])); exact rfl; ((repeat (first | exact Pull.nil _ | (apply Pull.cons; (repeat (first | with_reducible exact Pick.here _ _ | with_reducible apply Pick.there)))))); (intro x; (try dsimp only); repeat (first | exact AppL.nil _ | apply AppL.cons)); (intro w hw; exact lineEvent_any ls[k] w (by omega) (hT.carry (hw.below0 rfl))); exact rfl); (first | exact rfl | exact ⟨rfl, rfl, rfl⟩); (rintro _ _ ⟨⟨xe, hxe⟩, rfl, rfl⟩); (try refine ⟨SUB, ?_⟩))
    have hxs : (eventR ls[k]).isSome = true → (eventR ls[k]).getD ⟨0, 0, 0, 0⟩ = xe := fun h => by
      obtain ⟨u, hu⟩ := Option.isSome_iff_exists.1 h
      exact (congrArg (·.getD ⟨0, 0, 0, 0⟩) hu).trans (hxe u hu).symm
    repeat' (first | ((first | with_reducible (first | apply TL_q | apply TD_q0 | apply TD_q1 | apply TD_q2 | apply TD_q3) | ((with_reducible (first | apply TD_q0y | apply TD_q1y)); exact rfl; exact rfl; (with_reducible exact rfl))); (first | ((with_reducible apply QS_lenStr Tryd.underlying9); exact rfl) | ((with_reducible apply QS_eqlBs); exact rfl; exact rfl) | ((with_reducible apply QS_neqBs (a := ls[k]) (b := [])); exact rfl; exact rfl) | ((with_reducible apply QS_neqBs (a := textB (typesL l0) []) (b := l0 ++ [10])); exact rfl; exact rfl) | ((with_reducible apply QS_addBs (a := l0) (b := [10])); exact rfl; exact rfl; ((try simp only [List.length_cons, List.length_nil]); omega)) | ((with_reducible apply QS_sliceLow (l := 1)); exact rfl; exact rfl; omega) | ((with_reducible apply QS_index (o' := j + 1)); exact rfl; exact rfl; omega; omega) | exact QS.auto); exact rfl) | (refine GG ?_) | (refine GE ?_; (first | (rintro _ _ ⟨rfl, rfl⟩) | (rintro _ _ ⟨g, rfl, rfl⟩) | (rintro _ _ ⟨A', c', rfl, rfl⟩)); (try refine ⟨SUB, ?_⟩)) | ((refine GO2 ?_ ?_) <;> intro h <;> (try (repeat (first | with_reducible (replace h := of_decide_eq_true h) | with_reducible (replace h := of_decide_eq_false h) | with_reducible (replace h := bnt h) | with_reducible (replace h := bnf h) | with_reducible (replace h := Int.not_lt.mp h) | with_reducible (replace h := Int.not_le.mp h) | with_reducible (replace h := band_dec h) | with_reducible (replace h := band_decF h) | with_reducible (replace h := bor_dec h) | with_reducible (replace h := bor_decF h)))) <;> (try (exfalso; first | contradiction | omega))) | (refine GOF ?_ ?_) | ((with_reducible (first | apply TD_e2z | apply TD_e3z | apply TL_e | apply TD_e2 | apply TD_e3)); ((with_reducible apply ES_append1 (enc := Ev.enc) (xx := xe)); exact rfl; exact rfl; (repeat (first | with_reducible exact List.mem_cons_self | with_reducible apply List.mem_cons_of_mem)); exact rfl; exact fun _ => rfl; exact fun _ => rfl; (intro A' c'; first | ((repeat (first | with_reducible exact Upd.here _ _ _ | with_reducible apply Upd.there)); done) | (repeat (first | exact Upd.here _ _ _ | apply Upd.there))); (omega); decide; exact rfl); (first | exact rfl | exact ⟨rfl, rfl, rfl⟩); (rintro _ _ ⟨A', c', rfl, rfl⟩); (try refine ⟨SUB, ?_⟩)) | fail)
    all_goals first
      | (have hb : (eventR ls[k]).isSome = false := by assumption
         (refine At_ret Tryd.results8 rfl (fun w' hw => ?_))
         rw [hbad (by rw [hlo]; exact hb)]
         exact ⟨((none, 0), (none, 0)), rfl, (((hw.nilOwn Ev.enc 4 36).nilOwn intEnc 1 3).anyN 0).sel (by (repeat (first | exact Sel.nil _ | (apply Sel.cons; (repeat (first | with_reducible exact Pick.here _ _ | with_reducible apply Pick.there))))))⟩)
      | (have hg : (eventR ls[k]).isSome = true := by assumption
         rw [hxs hg] at hek
         apply At_rounds (k + 1, (A3, c3), (A', c'))
         (case hE => (try dsimp only); rw [hek, htk]; (repeat (first | exact SubE.nil _ | refine SubE.cons rfl ?_)))
         (case hS => (try dsimp only); rw [hek, htk]; exact fun w' hw => hw.sel (by (repeat (first | exact Sel.nil _ | (apply Sel.cons; (repeat (first | with_reducible exact Pick.here _ _ | with_reducible apply Pick.there)))))))
         (case hμ => (try dsimp only); omega)
         (case hp => exact ⟨hmore, hnx (by rw [hlo]; exact hg), hjl2⟩))
end
end Go.Proofs.YthecmfhoaneejaaDoor
