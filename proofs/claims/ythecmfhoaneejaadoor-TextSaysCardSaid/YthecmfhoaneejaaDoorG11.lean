/- Lemmas for the walks (TxR, TxB, TxK, TxW). No condition. -/
import Derived.Test.YthecmfhoaneejaaDoorG10
import Derived.Test.YthecmfhoaneejaaDoorG07
import Derived.Shelf.Strings.BuilderK
import Derived.Lib.UnsafeStr
import Derived.Laws.Externs
import Derived.Lib.OthersKept
import Derived.Lib.FrozenHead2
import GoSem.Claims
set_option linter.unusedSimpArgs false
set_option linter.unusedVariables false
set_option linter.unusedSectionVars false
set_option linter.unnecessarySimpa false
namespace Go.Proofs.YthecmfhoaneejaaDoor
open Go.RowKit Go.Lib
set_option linter.unusedSectionVars false

def badLine (ls : List Bs) : Option Nat := (List.range ls.length).find? fun i => !lineOkB ls i
def readR (l : Bs) : List Int × List Ev × Int × Int :=
  if 8192 < l.length then ([], [], 0, 2) else
  match badLine (splitL 10 l) with
  | some i => ([], [], (i : Int), 7)
  | none =>
    if (callsR (tysK (splitL 10 l)) (evsK (splitL 10 l) ((splitL 10 l).length - 1))).2.2 = 2 then ([], [], 0, 2)
    else if (callsR (tysK (splitL 10 l)) (evsK (splitL 10 l) ((splitL 10 l).length - 1))).2.2 ≠ 0 then ([], [], (callsR (tysK (splitL 10 l)) (evsK (splitL 10 l) ((splitL 10 l).length - 1))).2.1 + 1, (callsR (tysK (splitL 10 l)) (evsK (splitL 10 l) ((splitL 10 l).length - 1))).2.2)
    else (tysK (splitL 10 l), evsK (splitL 10 l) ((splitL 10 l).length - 1), 0, 0)
theorem badLine_none {ls : List Bs} (h : ∀ i, i < ls.length → lineOkB ls i = true) : badLine ls = none := by
  unfold badLine
  rw [List.find?_eq_none]
  intro i hi
  rw [h i (List.mem_range.1 hi)]; decide
theorem badLine_some {ls : List Bs} {k : Nat} (hk : k < ls.length) (h : ∀ i, i < k → lineOkB ls i = true) (h1 : lineOkB ls k = false) : badLine ls = some k := by
  unfold badLine
  refine List.find?_range_eq_some.2 ⟨by rw [h1]; rfl, List.mem_range.2 hk, fun j hj => ?_⟩
  rw [h j hj]; rfl
theorem callsR_y (ts : List Int) (l : List Ev) : 0 ≤ (callsR ts l).2.1 ∧ (callsR ts l).2.1 ≤ l.length := by
  unfold callsR
  split
  · exact ⟨Int.le_refl _, by show (0 : Int) ≤ _; omega⟩
  · split
    · exact ⟨Int.le_refl _, by show (0 : Int) ≤ _; omega⟩
    · split
      · exact ⟨by show (0 : Int) ≤ ((failR ts l : Nat) : Int); omega, by show ((failR ts l : Nat) : Int) ≤ _; omega⟩
      · exact ⟨Int.le_refl _, by show (0 : Int) ≤ _; omega⟩
/-- the types, the events behind k lines -/
def tyAt (ls : List Bs) (k : Nat) : List Int := if k = 0 then [] else tysK ls
def evAt (ls : List Bs) (k : Nat) : List Ev := evsK ls (min k (ls.length - 1))
section
variable {P : Program} {C : Ctx} {E : Slots} {S : List Ent} {s ty : Nat} {x : Operand}
theorem QS_lenStr {l : Bs} (hs : P.underlying s = some .string) (hx : evo E x = some (bsv l)) : QS P C E S (.call ⟨.builtin .len, #[x], #[s]⟩) ty (.int .i64 l.length) :=
  QS.of (fun a w ha _ => by
    have hr : (Builtin.len_ #[s] ty #[bsv l]).run P w = .ok (goInt l.length) w := by
      unfold bsv
      simp [Builtin.len_, run_underlying hs]; rfl
    simp [execOp, resolve, invoke, builtin, ha.evo hx, hr, goInt])
end
section
variable (l : Bs) (w : World) (hl : l.length ≤ 9223372036854775807) (hT : TxW w)
include hl hT
set_option maxRecDepth 100000 in
set_option maxHeartbeats 4000000 in
theorem textRead_any : Calls Tryd.prog 5 #[bsv l] w fun e w' => ∃ x : (Option Addr × Nat) × (Option Addr × Nat), e = .returned (.tuple #[.slice x.1.1 (readR l).1.length x.1.2, .slice x.2.1 (readR l).2.1.length x.2.2, .int .i64 (readR l).2.2.1, .int .i64 (readR l).2.2.2]) ∧ Mem ⟨0, [], w⟩ w' [entOwn intEnc 1 3 x.1.1 x.1.2 (readR l).1, entOwn Ev.enc 4 36 x.2.1 x.2.2 (readR l).2.1] := by
  refine calls_T (S := []) [] Tryd.func5 rfl Tryd.ntmps5 (by simp) (Mem.nil _) ?_
  by_cases h8 : 8192 < l.length
  · rw [show readR l = ([], [], 0, 2) from if_pos h8]
    repeat' (first | ((first | with_reducible (first | apply TL_q | apply TD_q0 | apply TD_q1 | apply TD_q2 | apply TD_q3) | ((with_reducible (first | apply TD_q0y | apply TD_q1y)); exact rfl; exact rfl; (with_reducible exact rfl))); (first | ((with_reducible apply QS_lenStr Tryd.underlying9); exact rfl) | ((with_reducible apply QS_eqlBs (b := [])); exact rfl; exact rfl) | exact QS.auto); exact rfl) | (refine GO ?_) | (refine GOE ?_; (first | (rintro _ _ ⟨rfl, rfl⟩) | (rintro _ _ ⟨g, rfl, rfl⟩) | (rintro _ _ ⟨A', c', rfl, rfl⟩))) | ((refine GO2 ?_ ?_) <;> intro h <;> (try (repeat (first | with_reducible (replace h := of_decide_eq_true h) | with_reducible (replace h := of_decide_eq_false h) | with_reducible (replace h := bnt h) | with_reducible (replace h := bnf h) | with_reducible (replace h := Int.not_lt.mp h) | with_reducible (replace h := Int.not_le.mp h) | with_reducible (replace h := band_dec h) | with_reducible (replace h := band_decF h) | with_reducible (replace h := bor_dec h) | with_reducible (replace h := bor_decF h)))) <;> (try (exfalso; first | contradiction | omega))) | fail)
    all_goals first | (exfalso; omega) | skip
    (refine At_ret Tryd.results5 rfl (fun w' hw => ?_))
    exact ⟨((none, 0), (none, 0)), rfl, (((hw.nilOwn Ev.enc 4 36).nilOwn intEnc 1 3).anyN 0).sel (by (repeat (first | exact Sel.nil _ | (apply Sel.cons; (repeat (first | with_reducible exact Pick.here _ _ | with_reducible apply Pick.there))))))⟩
  have hR : readR l = match badLine (splitL 10 l) with
    | some i => ([], [], (i : Int), 7)
    | none =>
      if (callsR (tysK (splitL 10 l)) (evsK (splitL 10 l) ((splitL 10 l).length - 1))).2.2 = 2 then ([], [], 0, 2)
      else if (callsR (tysK (splitL 10 l)) (evsK (splitL 10 l) ((splitL 10 l).length - 1))).2.2 ≠ 0 then ([], [], (callsR (tysK (splitL 10 l)) (evsK (splitL 10 l) ((splitL 10 l).length - 1))).2.1 + 1, (callsR (tysK (splitL 10 l)) (evsK (splitL 10 l) ((splitL 10 l).length - 1))).2.2)
      else (tysK (splitL 10 l), evsK (splitL 10 l) ((splitL 10 l).length - 1), 0, 0) := if_neg h8
  have hne := splitL_ne 10 l
  have hsl := splitL_len 10 l
  have hpl := fun x (h : x ∈ splitL 10 l) => splitL_part h
  have hsp := fun w h => split_any 10 l w (by omega) h
  obtain ⟨ls, hls⟩ : ∃ ls, ls = splitL 10 l := ⟨_, rfl⟩
  rw [← hls] at hne hsl hpl hsp hR
  clear hls
  have hpos : 0 < ls.length := by
    rcases hx : ls with _ | ⟨a, b⟩
    · exact absurd hx hne
    · simp
  repeat' (first | ((first | with_reducible (first | apply TL_q | apply TD_q0 | apply TD_q1 | apply TD_q2 | apply TD_q3) | ((with_reducible (first | apply TD_q0y | apply TD_q1y)); exact rfl; exact rfl; (with_reducible exact rfl))); (first | ((with_reducible apply QS_lenStr Tryd.underlying9); exact rfl) | ((with_reducible apply QS_eqlBs (b := [])); exact rfl; exact rfl) | exact QS.auto); exact rfl) | (refine GO ?_) | (refine GOE ?_; (first | (rintro _ _ ⟨rfl, rfl⟩) | (rintro _ _ ⟨g, rfl, rfl⟩) | (rintro _ _ ⟨A', c', rfl, rfl⟩))) | ((refine GO2 ?_ ?_) <;> intro h <;> (try (repeat (first | with_reducible (replace h := of_decide_eq_true h) | with_reducible (replace h := of_decide_eq_false h) | with_reducible (replace h := bnt h) | with_reducible (replace h := bnf h) | with_reducible (replace h := Int.not_lt.mp h) | with_reducible (replace h := Int.not_le.mp h) | with_reducible (replace h := band_dec h) | with_reducible (replace h := band_decF h) | with_reducible (replace h := bor_dec h) | with_reducible (replace h := bor_decF h)))) <;> (try (exfalso; first | contradiction | omega))) | ((with_reducible (first | apply TD_e2z | apply TD_e3z | apply TL_e | apply TD_e2 | apply TD_e3)); ((with_reducible apply ES_callOwn (f := 18)); exact rfl; (intro w hw; exact hsp w (hT.carry (hw.below0 rfl))); exact rfl); (first | exact rfl | exact ⟨rfl, rfl, rfl⟩); (rintro _ _ ⟨A1, c1, rfl, rfl⟩); (try refine ⟨SUB, ?_⟩)) | fail)
  all_goals first | (exfalso; omega) | skip
  refine T_fact (p := ls.length ≤ c1 ∧ (A1 = none → c1 = 0)) (fun w hw => hw.ownFacts (enc := strEnc) (M := 1) (et := 9) (by first | ((repeat (first | with_reducible exact List.mem_cons_self | with_reducible apply List.mem_cons_of_mem)); done) | (repeat (first | exact List.Mem.head _ | apply List.Mem.tail)))) fun hf => ?_
  refine T_own (enc := strEnc) (ls := ls) (by first | ((repeat (first | with_reducible exact List.mem_cons_self | with_reducible apply List.mem_cons_of_mem)); done) | (repeat (first | exact List.Mem.head _ | apply List.Mem.tail))) (by omega) ?_
  rintro g1 rfl
  refine T_loop (X := Nat × (Option Addr × Nat) × (Option Addr × Nat)) (fun x => [(27, .int .i64 (x.1 : Nat)), (26, .int .i64 (ls.length : Nat)), (25, .slice (some ⟨g1, 0, none⟩) ls.length c1), (7, .int .i64 ((ls.length : Nat) - 1 : Int)), (8, .slice x.2.1.1 (tyAt ls x.1).length x.2.1.2), (9, .slice x.2.2.1 (evAt ls x.1).length x.2.2.2)]) (fun x => [entOwn intEnc 1 3 x.2.1.1 x.2.1.2 (tyAt ls x.1), entOwn Ev.enc 4 36 x.2.2.1 x.2.2.2 (evAt ls x.1), entOwn strEnc 1 9 (some ⟨g1, 0, none⟩) c1 ls])
    (fun x => x.1 ≤ ls.length ∧ ∀ i, i < x.1 → lineOkB ls i = true) (fun x => ls.length - x.1) (0, (none, 0), (none, 0)) ⟨by (try dsimp only); omega, fun i h => absurd h (Nat.not_lt_zero _)⟩ (by (try dsimp only); (repeat (first | exact SubE.nil _ | refine SubE.cons rfl ?_))) (fun w' hw => by (show Mem _ w' [entOwn intEnc 1 3 none 0 [], entOwn Ev.enc 4 36 none 0 [], entOwn strEnc 1 9 (some ⟨g1, 0, none⟩) c1 ls]); exact ((hw.nilOwn Ev.enc 4 36).nilOwn intEnc 1 3).sel (by (repeat (first | exact Sel.nil _ | (apply Sel.cons; (repeat (first | with_reducible exact Pick.here _ _ | with_reducible apply Pick.there))))))) ?_
  rintro ⟨k, ⟨A3, c3⟩, ⟨A4, c4⟩⟩ ⟨hk, hok⟩
  dsimp only at hk hok ⊢
  by_cases hkl : k < ls.length
  · have hlk : lnK ls k = ls[k] := by unfold lnK; simp [hkl]
    have hpk := hpl ls[k] (List.getElem_mem _)
    have hbad : lineOkB ls k = false → readR l = ([], [], (k : Int), 7) := fun h => by rw [hR, badLine_some hkl hok h]
    have hnx : lineOkB ls k = true → ∀ i, i < k + 1 → lineOkB ls i = true := fun h i hi => by
      rcases Nat.lt_succ_iff_lt_or_eq.1 hi with h1 | rfl
      · exact hok i h1
      · exact h
    have hlo : lineOkB ls k = if k + 1 = ls.length then decide (ls[k] = [] ∧ 0 < k) else if k = 0 then (thingsR ls[k]).isSome else (eventR ls[k]).isSome := by
      unfold lineOkB
      rw [hlk]
      by_cases e0 : k = 0
      · subst e0; rw [hlk]
      · rw [if_neg e0, if_neg e0]
    clear hR hok
    by_cases hlast : k + 1 = ls.length
    · rw [if_pos hlast] at hlo
      have hek : evAt ls (k + 1) = evAt ls k := by
        unfold evAt
        rw [show min (k + 1) (ls.length - 1) = min k (ls.length - 1) by omega]
      have htk : 0 < k → tyAt ls (k + 1) = tyAt ls k := fun h => by unfold tyAt; rw [if_neg (by omega), if_neg (by omega)]
      by_cases hemp : ls[k] = [] ∧ 0 < k
      · rw [decide_eq_true hemp] at hlo
        have htk := htk hemp.2
        have hnx := hnx hlo
        clear hlo hbad
        generalize evAt ls k = E at *
        generalize tyAt ls k = K at *
        repeat' (first | ((first | with_reducible (first | apply TL_q | apply TD_q0 | apply TD_q1 | apply TD_q2 | apply TD_q3) | ((with_reducible (first | apply TD_q0y | apply TD_q1y)); exact rfl; exact rfl; (with_reducible exact rfl))); (first | ((with_reducible apply QS_lenStr Tryd.underlying9); exact rfl) | ((with_reducible apply QS_eqlBs (b := [])); exact rfl; exact rfl) | exact QS.auto); exact rfl) | (refine GO ?_) | (refine GOE ?_; (first | (rintro _ _ ⟨rfl, rfl⟩) | (rintro _ _ ⟨g, rfl, rfl⟩) | (rintro _ _ ⟨A', c', rfl, rfl⟩))) | ((refine GO2 ?_ ?_) <;> intro h <;> (try (repeat (first | with_reducible (replace h := of_decide_eq_true h) | with_reducible (replace h := of_decide_eq_false h) | with_reducible (replace h := bnt h) | with_reducible (replace h := bnf h) | with_reducible (replace h := Int.not_lt.mp h) | with_reducible (replace h := Int.not_le.mp h) | with_reducible (replace h := band_dec h) | with_reducible (replace h := band_decF h) | with_reducible (replace h := bor_dec h) | with_reducible (replace h := bor_decF h)))) <;> (try (exfalso; first | contradiction | omega))) | fail)
        all_goals first | (exfalso; omega) | (exfalso; exact (by assumption : ¬ ls[k] = []) hemp.1) | (exfalso; have h0 : decide (ls[k] = []) = false := (by assumption); rw [decide_eq_true hemp.1] at h0; cases h0) | skip
        all_goals
          apply At_rounds (k + 1, (A3, c3), (A4, c4))
          (case hE => (try dsimp only); rw [hek, htk]; (repeat (first | exact SubE.nil _ | refine SubE.cons rfl ?_)))
          (case hS => (try dsimp only); rw [hek, htk]; exact fun w' hw => hw.sel (by (repeat (first | exact Sel.nil _ | (apply Sel.cons; (repeat (first | with_reducible exact Pick.here _ _ | with_reducible apply Pick.there)))))))
          (case hμ => (try dsimp only); omega)
          (case hp => exact ⟨by (try dsimp only); omega, hnx⟩)
      · rw [decide_eq_false hemp] at hlo
        have hbad := hbad hlo
        have hemp' : ls[k] = [] → ¬ 0 < k := fun a b => hemp ⟨a, b⟩
        clear hlo hnx htk hek
        generalize evAt ls k = E at *
        generalize tyAt ls k = K at *
        repeat' (first | ((first | with_reducible (first | apply TL_q | apply TD_q0 | apply TD_q1 | apply TD_q2 | apply TD_q3) | ((with_reducible (first | apply TD_q0y | apply TD_q1y)); exact rfl; exact rfl; (with_reducible exact rfl))); (first | ((with_reducible apply QS_lenStr Tryd.underlying9); exact rfl) | ((with_reducible apply QS_eqlBs (b := [])); exact rfl; exact rfl) | exact QS.auto); exact rfl) | (refine GO ?_) | (refine GOE ?_; (first | (rintro _ _ ⟨rfl, rfl⟩) | (rintro _ _ ⟨g, rfl, rfl⟩) | (rintro _ _ ⟨A', c', rfl, rfl⟩))) | ((refine GO2 ?_ ?_) <;> intro h <;> (try (repeat (first | with_reducible (replace h := of_decide_eq_true h) | with_reducible (replace h := of_decide_eq_false h) | with_reducible (replace h := bnt h) | with_reducible (replace h := bnf h) | with_reducible (replace h := Int.not_lt.mp h) | with_reducible (replace h := Int.not_le.mp h) | with_reducible (replace h := band_dec h) | with_reducible (replace h := band_decF h) | with_reducible (replace h := bor_dec h) | with_reducible (replace h := bor_decF h)))) <;> (try (exfalso; first | contradiction | omega))) | fail)
        all_goals first | (exfalso; omega) | (exfalso; exact hemp' (by assumption) (by omega)) | (exfalso; exact hemp' (of_decide_eq_true (by assumption)) (by omega)) | skip
        all_goals
          (refine At_ret Tryd.results5 rfl (fun w' hw => ?_))
          rw [hbad]
          exact ⟨((none, 0), (none, 0)), rfl, (((hw.nilOwn Ev.enc 4 36).nilOwn intEnc 1 3).anyN 0).sel (by (repeat (first | exact Sel.nil _ | (apply Sel.cons; (repeat (first | with_reducible exact Pick.here _ _ | with_reducible apply Pick.there))))))⟩
    by_cases hk0 : k = 0
    · rw [if_neg hlast, if_pos hk0] at hlo
      have htk : tyAt ls (k + 1) = (thingsR ls[k]).getD [] := by
        unfold tyAt tysK
        rw [if_neg (by omega), ← hlk, hk0]
      have hek : evAt ls (k + 1) = evAt ls k := by
        unfold evAt
        rw [hk0, show min (0 + 1) (ls.length - 1) = 1 by omega, show min 0 (ls.length - 1) = 0 by omega]; rfl
      generalize evAt ls k = E at *
      generalize tyAt ls k = K at *
      repeat' (first | ((first | with_reducible (first | apply TL_q | apply TD_q0 | apply TD_q1 | apply TD_q2 | apply TD_q3) | ((with_reducible (first | apply TD_q0y | apply TD_q1y)); exact rfl; exact rfl; (with_reducible exact rfl))); (first | ((with_reducible apply QS_lenStr Tryd.underlying9); exact rfl) | ((with_reducible apply QS_eqlBs (b := [])); exact rfl; exact rfl) | exact QS.auto); exact rfl) | (refine GO ?_) | (refine GOE ?_; (first | (rintro _ _ ⟨rfl, rfl⟩) | (rintro _ _ ⟨g, rfl, rfl⟩) | (rintro _ _ ⟨A', c', rfl, rfl⟩))) | ((refine GO2 ?_ ?_) <;> intro h <;> (try (repeat (first | with_reducible (replace h := of_decide_eq_true h) | with_reducible (replace h := of_decide_eq_false h) | with_reducible (replace h := bnt h) | with_reducible (replace h := bnf h) | with_reducible (replace h := Int.not_lt.mp h) | with_reducible (replace h := Int.not_le.mp h) | with_reducible (replace h := band_dec h) | with_reducible (replace h := band_decF h) | with_reducible (replace h := bor_dec h) | with_reducible (replace h := bor_decF h)))) <;> (try (exfalso; first | contradiction | omega))) | ((with_reducible (first | apply TD_e2z | apply TD_e3z | apply TL_e | apply TD_e2 | apply TD_e3)); ((with_reducible apply ES_callOwn (f := 19)); exact rfl; (intro w hw; exact things_any ls[k] w (by omega) (hT.carry (hw.below0 rfl))); exact rfl); (first | exact rfl | exact ⟨rfl, rfl, rfl⟩); (rintro _ _ ⟨A2, c2, rfl, rfl⟩); (try refine ⟨SUB, ?_⟩)) | fail)
      all_goals first | (exfalso; omega) | skip
      all_goals first
        | (have hb : (thingsR ls[k]).isSome = false := by assumption
           (refine At_ret Tryd.results5 rfl (fun w' hw => ?_))
           rw [hbad (by rw [hlo]; exact hb)]
           exact ⟨((none, 0), (none, 0)), rfl, (((hw.nilOwn Ev.enc 4 36).nilOwn intEnc 1 3).anyN 0).sel (by (repeat (first | exact Sel.nil _ | (apply Sel.cons; (repeat (first | with_reducible exact Pick.here _ _ | with_reducible apply Pick.there))))))⟩)
        | (have hg : (thingsR ls[k]).isSome = true := by assumption
           apply At_rounds (k + 1, (A2, c2), (A4, c4))
           (case hE => (try dsimp only); rw [hek, htk]; (repeat (first | exact SubE.nil _ | refine SubE.cons rfl ?_)))
           (case hS => (try dsimp only); rw [hek, htk]; exact fun w' hw => hw.sel (by (repeat (first | exact Sel.nil _ | (apply Sel.cons; (repeat (first | with_reducible exact Pick.here _ _ | with_reducible apply Pick.there)))))))
           (case hμ => (try dsimp only); omega)
           (case hp => exact ⟨by (try dsimp only); omega, hnx (by rw [hlo]; exact hg)⟩))
    · rw [if_neg hlast, if_neg hk0] at hlo
      have htk : tyAt ls (k + 1) = tyAt ls k := by unfold tyAt; rw [if_neg (by omega), if_neg hk0]
      have hek : evAt ls (k + 1) = evAt ls k ++ [(eventR ls[k]).getD ⟨0, 0, 0, 0⟩] := by
        unfold evAt
        obtain ⟨j, rfl⟩ : ∃ j, k = j + 1 := ⟨k - 1, by omega⟩
        rw [show min (j + 1 + 1) (ls.length - 1) = j + 2 by omega, show min (j + 1) (ls.length - 1) = j + 1 by omega, evsK_succ, hlk]
      have hel : (evAt ls k).length ≤ 8192 := by unfold evAt; rw [evsK_len]; omega
      generalize evAt ls k = E at *
      generalize tyAt ls k = K at *
      repeat' (first | ((first | with_reducible (first | apply TL_q | apply TD_q0 | apply TD_q1 | apply TD_q2 | apply TD_q3) | ((with_reducible (first | apply TD_q0y | apply TD_q1y)); exact rfl; exact rfl; (with_reducible exact rfl))); (first | ((with_reducible apply QS_lenStr Tryd.underlying9); exact rfl) | ((with_reducible apply QS_eqlBs (b := [])); exact rfl; exact rfl) | exact QS.auto); exact rfl) | (refine GO ?_) | (refine GOE ?_; (first | (rintro _ _ ⟨rfl, rfl⟩) | (rintro _ _ ⟨g, rfl, rfl⟩) | (rintro _ _ ⟨A', c', rfl, rfl⟩))) | ((refine GO2 ?_ ?_) <;> intro h <;> (try (repeat (first | with_reducible (replace h := of_decide_eq_true h) | with_reducible (replace h := of_decide_eq_false h) | with_reducible (replace h := bnt h) | with_reducible (replace h := bnf h) | with_reducible (replace h := Int.not_lt.mp h) | with_reducible (replace h := Int.not_le.mp h) | with_reducible (replace h := band_dec h) | with_reducible (replace h := band_decF h) | with_reducible (replace h := bor_dec h) | with_reducible (replace h := bor_decF h)))) <;> (try (exfalso; first | contradiction | omega))) | fail)
      all_goals first | (exfalso; omega) | skip
      ((with_reducible (first | apply TD_e2z | apply TD_e3z | apply TL_e | apply TD_e2 | apply TD_e3)); ((with_reducible apply ES_callX (f := 20) (X := EvTo ls[k]) (S1 := []) (fun x => .tuple #[.agg (Ev.enc x.1).toArray, .bool (eventR ls[k]).isSome]) (fun _ => [])); exact rfl; ((repeat (first | exact Pull.nil _ | (apply Pull.cons; (repeat (first | with_reducible exact Pick.here _ _ | with_reducible apply Pick.there)))))); (intro x; (try dsimp only); repeat (first | exact AppL.nil _ | apply AppL.cons)); (intro w hw; exact textEvent_any ls[k] w (by omega) (hT.carry (hw.below0 rfl))); exact rfl); (first | exact rfl | exact ⟨rfl, rfl, rfl⟩); (rintro _ _ ⟨⟨xe, hxe⟩, rfl, rfl⟩); (try refine ⟨SUB, ?_⟩))
      have hxs : (eventR ls[k]).isSome = true → (eventR ls[k]).getD ⟨0, 0, 0, 0⟩ = xe := fun h => by
        obtain ⟨u, hu⟩ := Option.isSome_iff_exists.1 h
        exact (congrArg (·.getD ⟨0, 0, 0, 0⟩) hu).trans (hxe u hu).symm
      repeat' (first | ((first | with_reducible (first | apply TL_q | apply TD_q0 | apply TD_q1 | apply TD_q2 | apply TD_q3) | ((with_reducible (first | apply TD_q0y | apply TD_q1y)); exact rfl; exact rfl; (with_reducible exact rfl))); (first | ((with_reducible apply QS_lenStr Tryd.underlying9); exact rfl) | ((with_reducible apply QS_eqlBs (b := [])); exact rfl; exact rfl) | exact QS.auto); exact rfl) | (refine GO ?_) | (refine GOE ?_; (first | (rintro _ _ ⟨rfl, rfl⟩) | (rintro _ _ ⟨g, rfl, rfl⟩) | (rintro _ _ ⟨A', c', rfl, rfl⟩))) | ((refine GO2 ?_ ?_) <;> intro h <;> (try (repeat (first | with_reducible (replace h := of_decide_eq_true h) | with_reducible (replace h := of_decide_eq_false h) | with_reducible (replace h := bnt h) | with_reducible (replace h := bnf h) | with_reducible (replace h := Int.not_lt.mp h) | with_reducible (replace h := Int.not_le.mp h) | with_reducible (replace h := band_dec h) | with_reducible (replace h := band_decF h) | with_reducible (replace h := bor_dec h) | with_reducible (replace h := bor_decF h)))) <;> (try (exfalso; first | contradiction | omega))) | ((with_reducible (first | apply TD_e2z | apply TD_e3z | apply TL_e | apply TD_e2 | apply TD_e3)); ((with_reducible apply ES_append1 (enc := Ev.enc) (xx := xe)); exact rfl; exact rfl; (repeat (first | with_reducible exact List.mem_cons_self | with_reducible apply List.mem_cons_of_mem)); exact rfl; exact fun _ => rfl; exact fun _ => rfl; (intro A' c'; first | ((repeat (first | with_reducible exact Upd.here _ _ _ | with_reducible apply Upd.there)); done) | (repeat (first | exact Upd.here _ _ _ | apply Upd.there))); (omega); decide; exact rfl); (first | exact rfl | exact ⟨rfl, rfl, rfl⟩); (rintro _ _ ⟨A', c', rfl, rfl⟩); (try refine ⟨SUB, ?_⟩)) | fail)
      all_goals first
        | (have hb : (eventR ls[k]).isSome = false := by assumption
           (refine At_ret Tryd.results5 rfl (fun w' hw => ?_))
           rw [hbad (by rw [hlo]; exact hb)]
           exact ⟨((none, 0), (none, 0)), rfl, (((hw.nilOwn Ev.enc 4 36).nilOwn intEnc 1 3).anyN 0).sel (by (repeat (first | exact Sel.nil _ | (apply Sel.cons; (repeat (first | with_reducible exact Pick.here _ _ | with_reducible apply Pick.there))))))⟩)
        | (have hg : (eventR ls[k]).isSome = true := by assumption
           rw [hxs hg] at hek
           apply At_rounds (k + 1, (A3, c3), (A', c'))
           (case hE => (try dsimp only); rw [hek, htk]; (repeat (first | exact SubE.nil _ | refine SubE.cons rfl ?_)))
           (case hS => (try dsimp only); rw [hek, htk]; exact fun w' hw => hw.sel (by (repeat (first | exact Sel.nil _ | (apply Sel.cons; (repeat (first | with_reducible exact Pick.here _ _ | with_reducible apply Pick.there)))))))
           (case hμ => (try dsimp only); omega)
           (case hp => exact ⟨by (try dsimp only); omega, hnx (by rw [hlo]; exact hg)⟩))
  · obtain rfl : k = ls.length := by omega
    have h2 : 2 ≤ ls.length := by
      have h0 := hok (ls.length - 1) (by omega)
      unfold lineOkB at h0
      rw [if_pos (by omega)] at h0
      have := (of_decide_eq_true h0).2
      omega
    have hye := callsR_y (tysK ls) (evsK ls (ls.length - 1))
    rw [badLine_none hok] at hR
    dsimp only at hR
    have htk : tyAt ls ls.length = tysK ls := if_neg (by omega)
    have hek : evAt ls ls.length = evsK ls (ls.length - 1) := by
      unfold evAt
      rw [show min ls.length (ls.length - 1) = ls.length - 1 by omega]
    have hel : (evsK ls (ls.length - 1)).length ≤ 8192 := by rw [evsK_len]; omega
    have htl : (tysK ls).length ≤ 4 := by
      unfold tysK
      cases ht : thingsR (lnK ls 0) with
      | none => exact Nat.zero_le _
      | some t => exact (thingsR_ok ht).1
    rw [htk, hek]
    clear hok htk hek hpl hsp
    generalize tysK ls = K at *
    generalize evsK ls (ls.length - 1) = E at *
    have h1 := fun w h1 h2 => callsCode_any A3 A4 c3 c4 K E w (by omega) (by omega) h1 h2
    obtain ⟨cs, y, z, hcr⟩ : ∃ cs y z, callsR K E = (cs, y, z) := ⟨_, _, _, rfl⟩
    rw [hcr] at h1 hR hye
    dsimp only at h1 hR hye
    repeat' (first | ((first | with_reducible (first | apply TL_q | apply TD_q0 | apply TD_q1 | apply TD_q2 | apply TD_q3) | ((with_reducible (first | apply TD_q0y | apply TD_q1y)); exact rfl; exact rfl; (with_reducible exact rfl))); (first | ((with_reducible apply QS_lenStr Tryd.underlying9); exact rfl) | ((with_reducible apply QS_eqlBs (b := [])); exact rfl; exact rfl) | exact QS.auto); exact rfl) | (refine GO ?_) | (refine GOE ?_; (first | (rintro _ _ ⟨rfl, rfl⟩) | (rintro _ _ ⟨g, rfl, rfl⟩) | (rintro _ _ ⟨A', c', rfl, rfl⟩))) | ((refine GO2 ?_ ?_) <;> intro h <;> (try (repeat (first | with_reducible (replace h := of_decide_eq_true h) | with_reducible (replace h := of_decide_eq_false h) | with_reducible (replace h := bnt h) | with_reducible (replace h := bnf h) | with_reducible (replace h := Int.not_lt.mp h) | with_reducible (replace h := Int.not_le.mp h) | with_reducible (replace h := band_dec h) | with_reducible (replace h := band_decF h) | with_reducible (replace h := bor_dec h) | with_reducible (replace h := bor_decF h)))) <;> (try (exfalso; first | contradiction | omega))) | ((with_reducible (first | apply TD_e2z | apply TD_e3z | apply TL_e | apply TD_e2 | apply TD_e3)); ((with_reducible apply ES_callOwn (f := 11)); exact rfl; (intro w hw; exact h1 w (hw.ownRd (by first | ((repeat (first | with_reducible exact List.mem_cons_self | with_reducible apply List.mem_cons_of_mem)); done) | (repeat (first | exact List.Mem.head _ | apply List.Mem.tail))) (fun _ => rfl)) (hw.ownRd (by first | ((repeat (first | with_reducible exact List.mem_cons_self | with_reducible apply List.mem_cons_of_mem)); done) | (repeat (first | exact List.Mem.head _ | apply List.Mem.tail))) (fun _ => rfl))); exact rfl); (first | exact rfl | exact ⟨rfl, rfl, rfl⟩); (rintro _ _ ⟨A5, c5, rfl, rfl⟩); (try refine ⟨SUB, ?_⟩)) | fail)
    all_goals first | (exfalso; omega) | skip
    all_goals first
      | (have hz : z = 2 := by assumption
         (refine At_ret Tryd.results5 rfl (fun w' hw => ?_))
         rw [hR, if_pos hz, hz]
         exact ⟨((none, 0), (none, 0)), rfl, (((hw.nilOwn Ev.enc 4 36).nilOwn intEnc 1 3).anyN 0).sel (by (repeat (first | exact Sel.nil _ | (apply Sel.cons; (repeat (first | with_reducible exact Pick.here _ _ | with_reducible apply Pick.there))))))⟩)
      | (have hz : ¬ z = 2 := by assumption
         have hz0 : ¬ z = 0 := by assumption
         (refine At_ret Tryd.results5 rfl (fun w' hw => ?_))
         rw [hR, if_neg hz, if_pos hz0]
         exact ⟨((none, 0), (none, 0)), rfl, (((hw.nilOwn Ev.enc 4 36).nilOwn intEnc 1 3).anyN 0).sel (by (repeat (first | exact Sel.nil _ | (apply Sel.cons; (repeat (first | with_reducible exact Pick.here _ _ | with_reducible apply Pick.there))))))⟩)
      | (have hz : ¬ z = 2 := by assumption
         have hz0 : z = 0 := by assumption
         (refine At_ret Tryd.results5 rfl (fun w' hw => ?_))
         rw [hR, if_neg hz, if_neg (fun h => h hz0)]
         exact ⟨((A3, c3), (A4, c4)), rfl, (hw.anyN 0).sel (by (repeat (first | exact Sel.nil _ | (apply Sel.cons; (repeat (first | with_reducible exact Pick.here _ _ | with_reducible apply Pick.there))))))⟩)
end
end Go.Proofs.YthecmfhoaneejaaDoor

namespace Go.Proofs.YthecmfhoaneejaaDoor
open Go.RowKit Go.Lib
set_option linter.unusedSectionVars false

section
variable {w w' : World} {T8 TB b c : Nat} {A : Option Addr} {l : Bs}
theorem rowF_move {v : Value} {n : Nat} {xs : List Value} {B B' : Nat} (hp : w.ownsRowF B T8 1 v n xs) (h : ∀ g, v.ownBlock = some g → w'.heap[g]? = w.heap[g]?) (hB : ∀ g, v.ownBlock = some g → B' ≤ g) : w'.ownsRowF B' T8 1 v n xs := by
  refine ⟨hp.1, ?_⟩
  rcases hp.2 with hn | ⟨g, cap, cur, fz, hv, hbb, hg, rest⟩
  · exact .inl hn
  · exact .inr ⟨g, cap, cur, fz, hv, hB g (by rw [hv]; rfl), (h g (by rw [hv]; rfl)).trans hg, rest⟩
/-- a builder that is the call's own, with what lies in it -/
def entBldr (TB T8 b : Nat) (A : Option Addr) (c : Nat) (l : Bs) : Ent :=
  ⟨fun k => k = b ∨ (Value.slice A l.length c).ownBlock = some k, b :: (Value.slice A l.length c).ownBlock.toList, fun k => by rw [List.mem_cons, Option.mem_toList],
   fun w => (Value.slice A l.length c).ownBlock ≠ some b ∧ ∃ pv : Value, (pv = .pointer none ∨ pv = .pointer (some ⟨b, 0, none⟩)) ∧ w.heap[b]? = some (.cells #[pv, .slice A l.length c] TB (0, 0)) ∧ w.ownsRowF 0 T8 1 (.slice A l.length c) l.length (Lib.byteCells l),
   fun w w' h ⟨h1, pv, h2, h3, h4⟩ => ⟨h1, pv, h2, (h b (.inl rfl)).trans h3, rowF_move h4 (fun g hg => h g (.inr hg)) (fun g _ => Nat.zero_le g)⟩⟩
/-- an entry that does not lie in a row of bytes -/
def NoByte (T8 : Nat) (e : Ent) : Prop := ∀ w, e.p w → ∀ g, e.has g → ∃ o, w.heap[g]? = some o ∧ ∀ c fz, o ≠ .cells c T8 fz
theorem noByte_blk {g t : Nat} {cs : Array Value} (h : t ≠ T8) : NoByte T8 (entBlk g t cs) := fun w hp k hk => by
  cases hk
  exact ⟨_, hp, fun c fz e => by cases e; exact h rfl⟩
theorem noByte_own {α : Type} {enc : α → List Value} {M e c : Nat} {A : Option Addr} {xs : List α} (h : e ≠ T8) : NoByte T8 (entOwn enc M e A c xs) := fun w hp k hk => by
  rcases hp.2 with hn | ⟨g, cap, cur, hv, hbb, hg, rest⟩
  · have hk' : (Value.slice A xs.length c).ownBlock = some k := hk
    rw [hn.1] at hk'; cases hk'
  · have hk' : (Value.slice A xs.length c).ownBlock = some k := hk
    rw [hv] at hk'
    cases hk'
    exact ⟨_, hg, fun c fz e' => by cases e'; exact h rfl⟩
theorem bget_mem {C : Ctx} {R : List Ent} (hF : C.F = []) (h : Mem C w (entBldr TB T8 b A c l :: R)) : Lib.IsBuilderF TB T8 C.w0.heap.size b (Lib.byteCells l) w := by
  obtain ⟨⟨h1, pv, h2, h3, h4⟩, h5⟩ := h.holds _ List.mem_cons_self
  have hge : ∀ g, (entBldr TB T8 b A c l).has g → C.w0.heap.size ≤ g := fun g hg => by
    rcases (h5 g hg).2 with h6 | h6
    · rw [hF] at h6; cases h6
    · exact h6
  have hat : Lib.BuilderAtF TB T8 C.w0.heap.size b pv (Lib.byteCells l) w := by
    refine ⟨hge b (.inl rfl), _, h3, ?_, h1⟩
    rw [Lib.byteCells_length]
    exact rowF_move h4 (fun _ _ => rfl) (fun g hg => hge g (.inr hg))
  rcases h2 with rfl | rfl
  · exact .inl hat
  · exact .inr hat
theorem bput_mem {C : Ctx} {R : List Ent} {l' : Bs} (hF : C.F = []) (h : Mem C w (entBldr TB T8 b A c l :: R)) (hR : ∀ e ∈ R, NoByte T8 e) (hne : TB ≠ T8) (hb : Below C.w0.heap.size w w') (ho : Lib.OthersKept T8 (some b) w w') (hat : Lib.IsBuilderF TB T8 C.w0.heap.size b (Lib.byteCells l') w') : ∃ x : Option Addr × Nat, Mem C w' (entBldr TB T8 b x.1 x.2 l' :: R) := by
  obtain ⟨pv, hpv, hB, v, h1, h2, h3⟩ : ∃ pv : Value, (pv = .pointer none ∨ pv = .pointer (some ⟨b, 0, none⟩)) ∧ Lib.BuilderAtF TB T8 C.w0.heap.size b pv (Lib.byteCells l') w' := by
    rcases hat with h | h
    · exact ⟨_, .inl rfl, h⟩
    · exact ⟨_, .inr rfl, h⟩
  rw [Lib.byteCells_length] at h2
  obtain ⟨A', c', hv⟩ : ∃ A' c', v = .slice A' l'.length c' := by
    rcases h2.2 with ⟨e, e2⟩ | ⟨g, cap, cur, fz, e, _⟩
    · exact ⟨none, 0, by rw [e, e2]⟩
    · exact ⟨_, _, e⟩
  subst hv
  have hap := List.pairwise_cons.1 h.apart
  have hRk : ∀ e ∈ R, ∀ g, e.has g → w'.heap[g]? = w.heap[g]? := fun e he g hg => by
    obtain ⟨o, ho1, ho2⟩ := hR e he w (h.holds e (List.mem_cons_of_mem _ he)).1 g hg
    have hgb : g ≠ b := fun e' => hap.1 e he g (.inl e') hg
    rw [ho1]
    exact ho g o ho1 (fun e' => hgb (Option.some.inj e')) ho2
  refine ⟨(A', c'), ⟨?_, ?_, ?_⟩⟩
  · refine ⟨hb.os.trans h.keeps.os, hb.tape.trans h.keeps.tape, hb.output.trans h.keeps.output, Nat.le_trans h.keeps.size hb.size, fun k hk hk2 => ?_⟩
    rw [hb.block k hk]
    exact h.keeps.block k hk hk2
  · intro e he
    rcases List.mem_cons.1 he with rfl | he
    · refine ⟨⟨h3, pv, hpv, h1, rowF_move h2 (fun _ _ => rfl) (fun _ _ => Nat.zero_le _)⟩, fun g hg => ?_⟩
      rcases (show g = b ∨ (Value.slice A' l'.length c').ownBlock = some g from hg) with rfl | hg
      · exact ⟨(Array.getElem?_eq_some_iff.1 h1).1, .inr hB⟩
      · have := h2.lt g hg
        exact ⟨this.2, .inr this.1⟩
    · have h6 := h.holds e (List.mem_cons_of_mem _ he)
      exact ⟨e.loc w w' (hRk e he) h6.1, fun g hg => ⟨Nat.lt_of_lt_of_le (h6.2 g hg).1 hb.size, (h6.2 g hg).2⟩⟩
  · refine List.pairwise_cons.2 ⟨fun e he g hg hge => ?_, hap.2⟩
    rcases (show g = b ∨ (Value.slice A' l'.length c').ownBlock = some g from hg) with rfl | hg
    · exact hap.1 e he _ (.inl rfl) hge
    · obtain ⟨o, ho1, ho2⟩ := hR e he w (h.holds e (List.mem_cons_of_mem _ he)).1 g hge
      rcases h2.2 with ⟨e', _⟩ | ⟨g', cap, cur, fz, e', _, hgg, _⟩
      · rw [e'] at hg; cases hg
      · rw [e'] at hg
        cases hg
        rw [hRk e he _ hge, ho1] at hgg
        exact ho2 _ _ (Option.some.inj hgg)
end
end Go.Proofs.YthecmfhoaneejaaDoor

namespace Go.Proofs.YthecmfhoaneejaaDoor
open Go.RowKit Go.Lib
set_option linter.unusedVariables false
set_option linter.unusedSectionVars false

/-- what is asked of the block's type -/
class BldIn (TB : Nat) : Prop where
  lies : liesAt Tryd.prog Tryd.prog.depth TB (2 / Tryd.prog.cellsOf TB) 0 41 1 = true
  ne : TB ≠ 5
instance : BldIn 41 := ⟨by kernel_rfl, by decide⟩

theorem bSize : (Tryd.prog.info? 41).map (·.size) = some 2 := by kernel_rfl
theorem bByte : (Tryd.prog.info? 5).map (fun i => (i.zero, i.size, i.bytes)) = some (some (.int .u8 0), 1, 1) := by kernel_rfl
theorem bCells : Tryd.prog.cellsOf 5 = 1 := by kernel_rfl
section
variable {TB : Nat} [hT : BldIn TB]
include hT
set_option maxHeartbeats 1000000 in
set_option maxRecDepth 100000 in
theorem bcheck_new (b : Nat) (w : World) (h0 : w.cell? ⟨b, 0, none⟩ = some (.pointer none)) (hsh : w.shape? b = some (TB, 2)) (hfz : w.frozen? ⟨b, 0, none⟩ = false) :
    Calls Tryd.prog 32 #[.pointer (some ⟨b, 0, none⟩)] w fun e w' => e = .returned (.tuple #[]) ∧ w' = w.setCell ⟨b, 0, none⟩ (.pointer (some ⟨b, 0, none⟩)) := by
  obtain ⟨j, hj, hjs⟩ := Option.map_eq_some_iff.1 bSize
  go_enter Tryd.func32, Tryd.ntmps32
  go_wp2
  rw [Lib.run_to_unsafe w ⟨b, 0, none⟩ Tryd.underlying38 Tryd.underlying80 hj (by rw [hjs]; decide) hsh (Nat.zero_lt_succ 1)]
  simp only [Result.andThen]
  rw [Oper.upon_value]
  go_wp2
  rw [run_callFunc_extern (f := 48) rfl (by kernel_rfl) (by kernel_rfl) (by kernel_rfl) (e := Extern.AbiNoEscape.same) (by kernel_rfl)]
  rw [Lib.run_noEscape]
  simp only [Result.andThen]
  rw [Oper.upon_value]
  go_wp2
  rw [Lib.run_from_unsafe w ⟨b, 0, none⟩ Tryd.underlying80 Tryd.underlying38 hj hsh hT.lies]
  simp only [Result.andThen]
  rw [Oper.upon_value]
  go_wp2
  go_end0
  exact ⟨rfl, rfl⟩
set_option maxHeartbeats 1000000 in
set_option maxRecDepth 100000 in
theorem bcheck_used (b : Nat) (w : World) (h0 : w.cell? ⟨b, 0, none⟩ = some (.pointer (some ⟨b, 0, none⟩))) :
    Calls Tryd.prog 32 #[.pointer (some ⟨b, 0, none⟩)] w fun e w' => e = .returned (.tuple #[]) ∧ w' = w := by
  obtain ⟨j, hj, hjs⟩ := Option.map_eq_some_iff.1 bSize
  have hne := Lib.run_neq_ptr_same w ⟨b, 0, none⟩ Tryd.underlying38 hj
  go_enter Tryd.func32, Tryd.ntmps32
  go_wp2
  go_end0
  exact ⟨rfl, rfl⟩
theorem bcheck_any (B b : Nat) (bs : List Value) (w : World) (h : Lib.IsBuilderF TB 5 B b bs w) :
    Calls Tryd.prog 32 #[.pointer (some ⟨b, 0, none⟩)] w fun e w' => e = .returned (.tuple #[]) ∧ Lib.BuilderAtF TB 5 B b (.pointer (some ⟨b, 0, none⟩)) bs w' ∧ Below B w w' ∧ Lib.OthersKept 5 (some b) w w' := by
  rcases h with h | h
  · refine (bcheck_new (TB := TB) b w h.cell0 h.shape h.frozen0).mono ?_
    rintro e w' ⟨rfl, rfl⟩
    exact ⟨rfl, h.used _, (Below.refl B w).setCell (p := ⟨b, 0, none⟩) h.1 _, (Lib.OthersKept.refl _ _ w).setCell ⟨b, 0, none⟩ rfl _⟩
  · refine (bcheck_used (TB := TB) b w h.cell0).mono ?_
    rintro e w' ⟨rfl, rfl⟩
    exact ⟨rfl, h, Below.refl B _, Lib.OthersKept.refl _ _ _⟩
set_option maxHeartbeats 2000000 in
set_option maxRecDepth 100000 in
theorem bwrite_any (l s : Bs) (hlen : l.length + s.length ≤ 1000000000) (B b : Nat) (w : World) (h : Lib.IsBuilderF TB 5 B b (Lib.byteCells l) w) (hBw : B ≤ w.heap.size) :
    Calls Tryd.prog 12 #[.pointer (some ⟨b, 0, none⟩), bsv s] w fun e w' => e = .returned (.tuple #[.int .i64 s.length, .nilIface]) ∧ Lib.IsBuilderF TB 5 B b (Lib.byteCells (l ++ s)) w' ∧ Below B w w' ∧ Lib.OthersKept 5 (some b) w w' := by
  obtain ⟨i0, hi, hz0, hz1, hz2⟩ := info_parts bByte
  have hss : (⟨s.toArray⟩ : ByteArray).size = s.length := by show s.toArray.size = _; simp
  unfold bsv
  go_enter Tryd.func12, Tryd.ntmps12
  go_wp2_with (go_at_call 32; refine (bcheck_any B b (Lib.byteCells l) _ h).mono ?_)
  rintro e w1 ⟨rfl, h1, hb1, hk1⟩
  obtain ⟨hB, v, hbk, hown, hne⟩ := h1
  have c1 : w1.cell? ⟨b, 1, none⟩ = some v := by rw [Lib.cell_of_heap hbk]; rfl
  go_wp2_with (at_builtin; refine Lib.wpList_append_own_stringF _ rfl _ _ 39 9 rfl B 5 i0 Tryd.underlying39 Tryd.underlying9 hi hz0 hz1 hz2 _ _ _ rfl hown ⟨s.toArray⟩ rfl ?c3 ?c4 ?c5 ?_)
  case c3 => rw [Lib.byteCells_length, hss]; unfold maxLen; omega
  case c4 => rw [Lib.byteCells_length, hss]; omega
  case c5 => have := hb1.size; omega
  intro v' w2 hown' hgrow _
  have hlt : b < w1.heap.size := (Array.getElem?_eq_some_iff.1 hbk).1
  have hb2 : w2.heap[b]? = some (.cells #[.pointer (some ⟨b, 0, none⟩), v] TB (0, 0)) := by
    rw [hgrow.block b hlt (fun e => hne e.symm)]
    exact hbk
  have d1 : w2.cell? ⟨b, 1, none⟩ = some v := by rw [Lib.cell_of_heap hb2]; rfl
  have f1 : w2.frozen? ⟨b, 1, none⟩ = false := Lib.frozen_of_heap hb2 1
  obtain ⟨ao, n', cap, rfl⟩ : ∃ ao n' cap, v' = .slice ao n' cap := by
    rcases hown'.2 with ⟨hv, _⟩ | ⟨g, cap, cur, fz, hv, _⟩
    · exact ⟨_, _, _, hv⟩
    · exact ⟨_, _, _, hv⟩
  go_wp2
  go_ret2
  have hcs : Lib.byteCells (l ++ s) = Lib.byteCells l ++ Lib.strCells ⟨s.toArray⟩ := by
    unfold Lib.byteCells; rw [List.map_append]; rfl
  refine ⟨rfl, .inr ?_, ?_, (hk1.grown hgrow (Lib.ownsRowF_kind hown)).setCell ⟨b, 1, none⟩ rfl _⟩
  · rw [hcs]
    exact Lib.BuilderAtF.put (T := TB) (e := 5) hB hb2 (bs' := Lib.byteCells l ++ Lib.strCells ⟨s.toArray⟩) (by rw [List.length_append, Lib.strCells_length]; exact hown') hT.ne
  · exact (hb1.grown hgrow (by have := hb1.size; omega) (fun k hk => (hown.lt k hk).1)).setCell (p := ⟨b, 1, none⟩) hB _
set_option maxHeartbeats 2000000 in
set_option maxRecDepth 100000 in
theorem bstring_any (l : Bs) (h0 : l ≠ []) (B b : Nat) (w : World) (h : Lib.IsBuilderF TB 5 B b (Lib.byteCells l) w) (hBw : B ≤ w.heap.size) :
    Calls Tryd.prog 17 #[.pointer (some ⟨b, 0, none⟩)] w fun e w' => e = .returned (bsv l) ∧ Lib.IsBuilderF TB 5 B b (Lib.byteCells l) w' ∧ Below B w w' ∧ Lib.OthersKept 5 (some b) w w' := by
  obtain ⟨p, hp, hAt⟩ : ∃ p, (p = .pointer none ∨ p = .pointer (some ⟨b, 0, none⟩)) ∧ Lib.BuilderAtF TB 5 B b p (Lib.byteCells l) w := by
    rcases h with h | h
    · exact ⟨_, .inl rfl, h⟩
    · exact ⟨_, .inr rfl, h⟩
  obtain ⟨hB, v, hbk, hown, hne⟩ := hAt
  have hl0 : l.length ≠ 0 := by simpa using h0
  rw [Lib.byteCells_length] at hown
  obtain ⟨g, cap, cur, fz, rfl, hbg, hg, hfz, hnc, hcm, hcs, htake⟩ : ∃ g cap cur fz, v = .slice (some ⟨g, 0, none⟩) l.length cap ∧ B ≤ g ∧ w.heap[g]? = some (.cells cur 5 fz) ∧ fz.2 ≤ l.length * 1 ∧ l.length ≤ cap ∧ cap ≤ maxLen ∧ cur.size = cap * 1 ∧ cur.toList.take (l.length * 1) = Lib.byteCells l := by
    rcases hown.2 with ⟨_, hz⟩ | ⟨g, cap, cur, fz, hv, r⟩
    · exact absurd hz hl0
    · exact ⟨g, cap, cur, fz, hv, r⟩
  have c1 : w.drew.cell? ⟨b, 1, none⟩ = some (.slice (some ⟨g, 0, none⟩) l.length cap) := by
    have : w.drew.heap[b]? = some (.cells #[p, .slice (some ⟨g, 0, none⟩) l.length cap] TB (0, 0)) := hbk
    rw [Lib.cell_of_heap this]; rfl
  have hSD : (Builtin.unsafeSliceData_ #[39] 71 #[.slice (some ⟨g, 0, none⟩) l.length cap]).run Tryd.prog w.drew = .ok (.pointer (some ⟨g, 0, none⟩)) w.drew :=
    Lib.run_unsafeSliceData_row _ _ _ _ _ _ (by omega)
  have hUS : (Builtin.unsafeString_ #[71, 3] 9 #[.pointer (some ⟨g, 0, none⟩), .int .i64 l.length]).run Tryd.prog w.drew = .ok (.string ⟨l.toArray⟩) (w.drew.freeze ⟨g, 0, none⟩ l.length) := by
    refine Lib.run_unsafeString_row w.drew 71 3 9 5 Tryd.underlying71 bCells g cur.size (by have hg' : w.drew.heap[g]? = some (.cells cur 5 fz) := hg; simp [World.shape?, hg']) l h0 (by omega) (by unfold maxLen at hcm; omega) ?_
    intro j x hx
    exact hown.cells (g := g) rfl j (.int .u8 x.toNat) (by simp [Lib.byteCells, hx])
  have hkeep : Lib.IsBuilderF TB 5 B b (Lib.byteCells l) (w.drew.freeze ⟨g, 0, none⟩ l.length) := by
    have hA : Lib.BuilderAtF TB 5 B b p (Lib.byteCells l) w.drew := ⟨hB, _, hbk, by rw [Lib.byteCells_length]; exact hown, hne⟩
    have hF := hA.froze (g := g) (cap := cap) (by rw [Lib.byteCells_length]; exact c1)
    rw [Lib.byteCells_length] at hF
    rcases hp with rfl | rfl
    · exact .inl hF
    · exact .inr hF
  have mixed : Tryd.prog.follows Departure.mixedOrders = true := by kernel_rfl
  go_enter Tryd.func17, Tryd.ntmps17
  go_wp2
  go_region_o
  all_goals (go_wp2; go_ret; exact ⟨rfl, hkeep, Lib.below_freeze (Below.drew (Below.refl B w)) (p := ⟨g, 0, none⟩) hbg _, ((Lib.OthersKept.refl _ _ w).drew).freeze ⟨g, 0, none⟩ _ ⟨cur, fz, hg⟩⟩)
end
end Go.Proofs.YthecmfhoaneejaaDoor

namespace Go.Proofs.YthecmfhoaneejaaDoor
open Go.RowKit Go.Lib
set_option linter.unusedSectionVars false

section
variable {P : Program} {C : Ctx} {E : Slots} {S R S2 : List Ent} {d ty ty2 ty3 f : Nat} {ps : String} {af : Array Edge} {g0 : Option (Nat × Bool)} {x y : Operand}
theorem ba_app (a b : Bs) : (⟨a.toArray⟩ ++ ⟨b.toArray⟩ : ByteArray) = ⟨(a ++ b).toArray⟩ := by
  apply ByteArray.ext
  rw [ByteArray.data_append]; simp
theorem QS_addBs {a b : Bs} (hx : evo E x = some (bsv a)) (hy : evo E y = some (bsv b)) (hl : a.length + b.length ≤ 1000000) : QS P C E S (.binOp .add ty2 x y ty3) ty (bsv (a ++ b)) :=
  QS.of (fun ac w ha _ => by
    unfold execOp
    simp only [ha.evo hx, ha.evo hy]
    have hg : (eqGuard .add ty2 x y (bsv a) (bsv b)).run P w = .ok () w := rfl
    have hb : (binOp .add ty2 (bsv a) (bsv b)).run P w = .ok (bsv (a ++ b)) w := by
      unfold bsv
      rw [binOp_string_add]
      unfold Op.stringOp
      dsimp only
      rw [if_neg (by show ¬ ((a.toArray.size + b.toArray.size : Nat) : Int) > 9223372036854775807; simp; omega), ba_app]; rfl
    simp only [Sem.run_bind, hg, Result.andThen_ok, hb]; rfl)
/-- a builder is called -/
theorem ES_bld [hf : IsFn P f] {TB T8 b c : Nat} {A : Option Addr} {l l' : Bs} {v : Value} {xs : List Operand} {vs : List Value} {ats : Array TypeId} (hx : evs E xs = some vs) (hS : Pull S [entBldr TB T8 b A c l] R) (hF : C.F = []) (hR : ∀ e ∈ R, NoByte T8 e) (hne : TB ≠ T8)
    (hc : ∀ B w, Lib.IsBuilderF TB T8 B b (Lib.byteCells l) w → B ≤ w.heap.size → Calls P f vs.toArray w fun e w' => e = .returned v ∧ Lib.IsBuilderF TB T8 B b (Lib.byteCells l') w' ∧ Below B w w' ∧ Lib.OthersKept T8 (some b) w w') (hd : Nat.ble (d + 1) C.n = true) :
    ES P C E S ⟨some d, .call ⟨.value (.func f), xs.toArray, ats⟩, ty, ps, af, g0⟩ (fun E' S' => ∃ x : Option Addr × Nat, E' = (d, v) :: E ∧ S' = entBldr TB T8 b x.1 x.2 l' :: R) :=
  (ES_call (fun u T => ∃ x : Option Addr × Nat, u = v ∧ T = entBldr TB T8 b x.1 x.2 l' :: R) hx (fun w hw => by
    have h1 : Mem C w (entBldr TB T8 b A c l :: R) := hw.pull hS
    refine (hc C.w0.heap.size w (bget_mem hF h1) h1.keeps.size).mono ?_
    rintro e w' ⟨he, hb, hbl, ho⟩
    obtain ⟨x, hm⟩ := bput_mem hF h1 hR hne (hbl) ho hb
    exact ⟨v, _, he, hm, x, rfl, rfl⟩) hd).weak (by rintro _ _ ⟨_, ⟨x, rfl, rfl⟩, rfl⟩; exact ⟨x, rfl, rfl⟩)
theorem bnew_mem {w : World} {TB T8 b : Nat} (h : Mem C w (entBlk b TB #[.pointer none, .slice none 0 0] :: R)) : Mem C w (entBldr TB T8 b none 0 [] :: R) := by
  have h1 := h.holds _ List.mem_cons_self
  have hap := List.pairwise_cons.1 h.apart
  have hg : ∀ g, (entBldr TB T8 b none 0 []).has g → (entBlk b TB #[.pointer none, .slice none 0 0]).has g := fun g hg => by
    rcases (show g = b ∨ (Value.slice none 0 0).ownBlock = some g from hg) with rfl | h2
    · exact rfl
    · cases h2
  refine ⟨h.keeps, fun e he => ?_, List.pairwise_cons.2 ⟨fun e he g hg' => hap.1 e he g (hg g hg'), hap.2⟩⟩
  rcases List.mem_cons.1 he with rfl | he
  · refine ⟨⟨by simp [Value.ownBlock], _, .inl rfl, h1.1, ?_⟩, fun g hg' => h1.2 g (hg g hg')⟩
    exact ⟨rfl, .inl ⟨rfl, rfl⟩⟩
  · exact h.holds e (List.mem_cons_of_mem _ he)
theorem noB_nil {T8 : Nat} : ∀ e ∈ ([] : List Ent), NoByte T8 e := fun e he => by cases he
theorem noB_cons {T8 : Nat} {e : Ent} (h : NoByte T8 e) (hR : ∀ e ∈ R, NoByte T8 e) : ∀ f ∈ e :: R, NoByte T8 f := fun f hf => by
  rcases List.mem_cons.1 hf with rfl | hf
  · exact h
  · exact hR f hf
end
end Go.Proofs.YthecmfhoaneejaaDoor
