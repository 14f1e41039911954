/- Lemmas for the walks (TxT, TxE). No condition. -/
import Derived.Test.YthecmfhoaneejaaDoorG09
import Derived.Test.YthecmfhoaneejaaDoorG05
set_option linter.unusedSimpArgs false
set_option linter.unusedVariables false
set_option linter.unusedSectionVars false
set_option linter.unnecessarySimpa false
namespace Go.Proofs.YthecmfhoaneejaaDoor
open Go.RowKit Go.Lib
set_option linter.unusedSectionVars false

theorem allOf_some {α β : Type} {f : α → Option β} {g : α → β} : ∀ {r : List α}, (∀ x ∈ r, f x = some (g x)) → allOf f r = some (r.map g)
  | [], _ => rfl
  | x :: r, h => by
    unfold allOf
    rw [h x List.mem_cons_self, allOf_some fun y hy => h y (List.mem_cons_of_mem _ hy)]; rfl
theorem allOf_none {α β : Type} {f : α → Option β} : ∀ {r : List α} {x : α}, x ∈ r → f x = none → allOf f r = none
  | y :: r, x, hx, h => by
    unfold allOf
    rcases List.mem_cons.1 hx with rfl | hx
    · rw [h]
    · rw [allOf_none hx h]
      cases f y <;> rfl
section
variable (l : Bs) (w : World) (hl : l.length ≤ 1000000) (hT : TxW w)
include hl hT
set_option maxRecDepth 100000 in
set_option maxHeartbeats 4000000 in
theorem things_any : Calls Tryd.prog 19 #[bsv l] w fun e w' => ∃ A c, e = .returned (.tuple #[.slice A ((thingsR l).getD []).length c, .bool (thingsR l).isSome]) ∧ Own intEnc 1 3 w' w.heap.size (.slice A ((thingsR l).getD []).length c) ((thingsR l).getD []) ∧ Below w.heap.size w w' := by
  have hne := splitL_ne 32 l
  have hsl := splitL_len 32 l
  have hR : thingsR l = match splitL 32 l with | w :: r => if w = thW ∧ 1 ≤ r.length ∧ r.length ≤ 4 then allOf tyOf r else none | [] => none := rfl
  obtain ⟨ws, hws⟩ : ∃ ws, ws = splitL 32 l := ⟨_, rfl⟩
  refine calls_T (S := []) [] Tryd.func19 rfl Tryd.ntmps19 (by simp) (Mem.nil _) ?_
  repeat' (first | ((first | with_reducible (first | apply TL_q | apply TD_q0 | apply TD_q1 | apply TD_q2 | apply TD_q3) | ((with_reducible (first | apply TD_q0y | apply TD_q1y)); exact rfl; exact rfl; (with_reducible exact rfl))); (first | ((with_reducible apply QS_neqBs (a := ws[0]) (b := thW)); exact rfl; exact rfl) | ((with_reducible apply QS_sliceLow (l := 1)); exact rfl; exact rfl; omega) | ((with_reducible apply QS_index (o' := k + 1)); exact rfl; exact rfl; omega; omega) | exact QS.auto); exact rfl) | (refine GO ?_) | (refine GOE ?_; (first | (rintro _ _ ⟨rfl, rfl⟩) | (rintro _ _ ⟨g, rfl, rfl⟩) | (rintro _ _ ⟨A', c', rfl, rfl⟩))) | ((refine GO2 ?_ ?_) <;> intro h <;> (try (repeat (first | with_reducible (replace h := of_decide_eq_true h) | with_reducible (replace h := of_decide_eq_false h) | with_reducible (replace h := bnt h) | with_reducible (replace h := bnf h) | with_reducible (replace h := Int.not_lt.mp h) | with_reducible (replace h := Int.not_le.mp h) | with_reducible (replace h := band_dec h) | with_reducible (replace h := band_decF h) | with_reducible (replace h := bor_dec h) | with_reducible (replace h := bor_decF h)))) <;> (try (exfalso; first | contradiction | omega))) | ((with_reducible (first | apply TD_e2z | apply TD_e3z | apply TL_e | apply TD_e2 | apply TD_e3)); ((with_reducible apply ES_callOwn (f := 18)); exact rfl; (intro w hw; exact split_any 32 l w hl (hT.carry (hw.below0 rfl))); exact rfl); (first | exact rfl | exact ⟨rfl, rfl, rfl⟩); (rintro _ _ ⟨A1, c1, rfl, rfl⟩); (try refine ⟨SUB, ?_⟩)) | fail)
  rw [← hws] at hne hsl hR ⊢
  have hpos : 0 < ws.length := by
    rcases hx : ws with _ | ⟨a, b⟩
    · exact absurd hx hne
    · simp
  have hR2 : thingsR l = if ws[0] = thW ∧ 2 ≤ ws.length ∧ ws.length ≤ 5 then allOf tyOf ws.tail else none := by
    rw [hR]
    rcases ws with _ | ⟨a, b⟩
    · exact absurd rfl hne
    · simp only [List.getElem_cons_zero, List.length_cons, List.tail_cons]
      by_cases h : a = thW ∧ 1 ≤ b.length ∧ b.length ≤ 4
      · rw [if_pos h, if_pos ⟨h.1, by omega, by omega⟩]
      · rw [if_neg h, if_neg (fun e => h ⟨e.1, by omega, by omega⟩)]
  clear hR hne
  refine TL_fact (p := ws.length ≤ c1 ∧ (A1 = none → c1 = 0)) (fun w hw => hw.ownFacts (enc := strEnc) (M := 1) (et := 9) (by first | ((repeat (first | with_reducible exact List.mem_cons_self | with_reducible apply List.mem_cons_of_mem)); done) | (repeat (first | exact List.Mem.head _ | apply List.Mem.tail)))) fun hf => ?_
  refine TL_own (enc := strEnc) (ls := ws) (by first | ((repeat (first | with_reducible exact List.mem_cons_self | with_reducible apply List.mem_cons_of_mem)); done) | (repeat (first | exact List.Mem.head _ | apply List.Mem.tail))) (by omega) ?_
  rintro g1 rfl
  by_cases hc : ws[0] = thW ∧ 2 ≤ ws.length ∧ ws.length ≤ 5
  case neg =>
    rw [if_neg hc] at hR2
    rw [hR2]
    have hc' : ws[0] = thW → ¬ ws.length < 2 → ¬ 5 < ws.length → False := fun a b c => hc ⟨a, by omega, by omega⟩
    clear hR2 hws
    repeat' (first | ((first | with_reducible (first | apply TL_q | apply TD_q0 | apply TD_q1 | apply TD_q2 | apply TD_q3) | ((with_reducible (first | apply TD_q0y | apply TD_q1y)); exact rfl; exact rfl; (with_reducible exact rfl))); (first | ((with_reducible apply QS_neqBs (a := ws[0]) (b := thW)); exact rfl; exact rfl) | ((with_reducible apply QS_sliceLow (l := 1)); exact rfl; exact rfl; omega) | ((with_reducible apply QS_index (o' := k + 1)); exact rfl; exact rfl; omega; omega) | exact QS.auto); exact rfl) | (refine GO ?_) | (refine GOE ?_; (first | (rintro _ _ ⟨rfl, rfl⟩) | (rintro _ _ ⟨g, rfl, rfl⟩) | (rintro _ _ ⟨A', c', rfl, rfl⟩))) | ((refine GO2 ?_ ?_) <;> intro h <;> (try (repeat (first | with_reducible (replace h := of_decide_eq_true h) | with_reducible (replace h := of_decide_eq_false h) | with_reducible (replace h := bnt h) | with_reducible (replace h := bnf h) | with_reducible (replace h := Int.not_lt.mp h) | with_reducible (replace h := Int.not_le.mp h) | with_reducible (replace h := band_dec h) | with_reducible (replace h := band_decF h) | with_reducible (replace h := bor_dec h) | with_reducible (replace h := bor_decF h)))) <;> (try (exfalso; first | contradiction | omega))) | fail)
    all_goals first
      | ((refine At_ret Tryd.results19 rfl (fun w' hw => ?_)); exact ⟨none, 0, rfl, Own.nil _ _, hw.below0 rfl⟩)
      | (exfalso; exact hc' (by assumption) (by omega) (by omega))
  rw [if_pos hc] at hR2
  obtain ⟨hc0, hc1, hc2⟩ := hc
  have htl : ws.tail.length = ws.length - 1 := by simp
  have htg : ∀ k (h : k + 1 < ws.length) (h2 : k < ws.tail.length), ws.tail[k] = ws[k + 1] := fun k h h2 => by simp
  repeat' (first | ((first | with_reducible (first | apply TL_q | apply TD_q0 | apply TD_q1 | apply TD_q2 | apply TD_q3) | ((with_reducible (first | apply TD_q0y | apply TD_q1y)); exact rfl; exact rfl; (with_reducible exact rfl))); (first | ((with_reducible apply QS_neqBs (a := ws[0]) (b := thW)); exact rfl; exact rfl) | ((with_reducible apply QS_sliceLow (l := 1)); exact rfl; exact rfl; omega) | ((with_reducible apply QS_index (o' := k + 1)); exact rfl; exact rfl; omega; omega) | exact QS.auto); exact rfl) | (refine GO ?_) | (refine GOE ?_; (first | (rintro _ _ ⟨rfl, rfl⟩) | (rintro _ _ ⟨g, rfl, rfl⟩) | (rintro _ _ ⟨A', c', rfl, rfl⟩))) | ((refine GO2 ?_ ?_) <;> intro h <;> (try (repeat (first | with_reducible (replace h := of_decide_eq_true h) | with_reducible (replace h := of_decide_eq_false h) | with_reducible (replace h := bnt h) | with_reducible (replace h := bnf h) | with_reducible (replace h := Int.not_lt.mp h) | with_reducible (replace h := Int.not_le.mp h) | with_reducible (replace h := band_dec h) | with_reducible (replace h := band_decF h) | with_reducible (replace h := bor_dec h) | with_reducible (replace h := bor_decF h)))) <;> (try (exfalso; first | contradiction | omega))) | fail)
  all_goals first | (exfalso; omega) | (exfalso; contradiction) | skip
  rw [if_neg (show ¬ c1 = 1 by omega)]
  refine T_loop (X := Nat × Option Addr × Nat) (fun x => [(28, .int .i64 (x.1 : Nat)), (27, .int .i64 ((ws.length - 1 : Nat) : Int)), (26, .slice (some ⟨g1, 0 + 1 * 1, none⟩) (ws.length - 1) (c1 - 1)), (5, .slice x.2.1 ((ws.tail.take x.1).map (idxB typeW)).length x.2.2)]) (fun x => [entOwn intEnc 1 3 x.2.1 x.2.2 ((ws.tail.take x.1).map (idxB typeW)), entOwn strEnc 1 9 (some ⟨g1, 0, none⟩) c1 ws])
    (fun x => x.1 ≤ ws.length - 1 ∧ ∀ i (hi : i < ws.tail.length), i < x.1 → 1 ≤ idxB typeW ws.tail[i]) (fun x => ws.length - 1 - x.1) (0, none, 0) ⟨by (try dsimp only); omega, fun i hi h => absurd h (Nat.not_lt_zero _)⟩ (by (try dsimp only); (repeat (first | exact SubE.nil _ | refine SubE.cons rfl ?_))) (fun w' hw => by (show Mem _ w' [entOwn intEnc 1 3 none 0 [], entOwn strEnc 1 9 (some ⟨g1, 0, none⟩) c1 ws]); exact (hw.nilOwn intEnc 1 3).sel (by (repeat (first | exact Sel.nil _ | (apply Sel.cons; (repeat (first | with_reducible exact Pick.here _ _ | with_reducible apply Pick.there))))))) ?_
  rintro ⟨k, A3, c3⟩ ⟨hk, hok⟩
  dsimp only at hk hok ⊢
  have hKl : ((ws.tail.take k).map (idxB typeW)).length = k := by rw [List.length_map, List.length_take, htl]; omega
  by_cases hkl : k < ws.length - 1
  · have hk1 : k + 1 < ws.length := by omega
    have hg := htg k (by omega) (by omega)
    have hks : (ws.tail.take (k + 1)).map (idxB typeW) = (ws.tail.take k).map (idxB typeW) ++ [idxB typeW ws[k + 1]] := by
      rw [List.take_succ_eq_append_getElem (by omega), List.map_append, hg]; rfl
    have hx0 := idxB_cases typeW ws[k + 1]
    have hbd : -1 ≤ idxB typeW ws[k + 1] ∧ idxB typeW ws[k + 1] < 6 := by
      rcases hx0 with h | ⟨i, h1, h2, _⟩
      · omega
      · have : typeW.length = 6 := rfl
        omega
    have hno : idxB typeW ws[k + 1] < 1 → allOf tyOf ws.tail = none := fun h => by
      refine allOf_none (x := ws[k + 1]) (by rw [← hg]; exact List.getElem_mem _) ?_
      unfold tyOf
      rw [if_neg (by omega)]
    have hnx : ¬ idxB typeW ws[k + 1] < 1 → ∀ i (hi : i < ws.tail.length), i < k + 1 → 1 ≤ idxB typeW ws.tail[i] := fun h i hi hik => by
      rcases Nat.lt_succ_iff_lt_or_eq.1 hik with h1 | rfl
      · exact hok i hi h1
      · rw [hg]; omega
    clear hok htg hg
    generalize (ws.tail.take k).map (idxB typeW) = K at *
    have hix := fun A c w h => indexS_any A c typeW ws[k + 1] w (by decide) h
    generalize idxB typeW ws[k + 1] = ix at *
    repeat' (first | ((first | with_reducible (first | apply TL_q | apply TD_q0 | apply TD_q1 | apply TD_q2 | apply TD_q3) | ((with_reducible (first | apply TD_q0y | apply TD_q1y)); exact rfl; exact rfl; (with_reducible exact rfl))); (first | ((with_reducible apply QS_neqBs (a := ws[0]) (b := thW)); exact rfl; exact rfl) | ((with_reducible apply QS_sliceLow (l := 1)); exact rfl; exact rfl; omega) | ((with_reducible apply QS_index (o' := k + 1)); exact rfl; exact rfl; omega; omega) | exact QS.auto); exact rfl) | (refine GO ?_) | (refine GOE ?_; (first | (rintro _ _ ⟨rfl, rfl⟩) | (rintro _ _ ⟨g, rfl, rfl⟩) | (rintro _ _ ⟨A', c', rfl, rfl⟩))) | ((refine GO2 ?_ ?_) <;> intro h <;> (try (repeat (first | with_reducible (replace h := of_decide_eq_true h) | with_reducible (replace h := of_decide_eq_false h) | with_reducible (replace h := bnt h) | with_reducible (replace h := bnf h) | with_reducible (replace h := Int.not_lt.mp h) | with_reducible (replace h := Int.not_le.mp h) | with_reducible (replace h := band_dec h) | with_reducible (replace h := band_decF h) | with_reducible (replace h := bor_dec h) | with_reducible (replace h := bor_decF h)))) <;> (try (exfalso; first | contradiction | omega))) | ((with_reducible (first | apply TD_e2z | apply TD_e3z | apply TL_e | apply TD_e2 | apply TD_e3)); ((with_reducible apply ES_callOwn (f := 13)); exact rfl; (intro w hw; exact typeWords_any w); exact rfl); (first | exact rfl | exact ⟨rfl, rfl, rfl⟩); (rintro _ _ ⟨A2, c2, rfl, rfl⟩); (try refine ⟨SUB, ?_⟩)) | ((with_reducible (first | apply TD_e2z | apply TD_e3z | apply TL_e | apply TD_e2 | apply TD_e3)); ((with_reducible apply ES_callV (f := 35)); exact rfl; (intro w hw; exact hix A2 c2 w (hw.ownRd (by first | ((repeat (first | with_reducible exact List.mem_cons_self | with_reducible apply List.mem_cons_of_mem)); done) | (repeat (first | exact List.Mem.head _ | apply List.Mem.tail))) (fun _ => rfl))); exact rfl); (first | exact rfl | exact ⟨rfl, rfl, rfl⟩); (rintro _ _ ⟨rfl, rfl⟩); (try refine ⟨SUB, ?_⟩)) | ((with_reducible (first | apply TD_e2z | apply TD_e3z | apply TL_e | apply TD_e2 | apply TD_e3)); ((with_reducible apply ES_append1 (enc := intEnc) (xx := ix)); exact rfl; exact rfl; (repeat (first | with_reducible exact List.mem_cons_self | with_reducible apply List.mem_cons_of_mem)); exact rfl; exact fun _ => rfl; exact fun _ => rfl; (intro A' c'; first | ((repeat (first | with_reducible exact Upd.here _ _ _ | with_reducible apply Upd.there)); done) | (repeat (first | exact Upd.here _ _ _ | apply Upd.there))); (omega); decide; exact rfl); (first | exact rfl | exact ⟨rfl, rfl, rfl⟩); (rintro _ _ ⟨A', c', rfl, rfl⟩); (try refine ⟨SUB, ?_⟩)) | fail)
    all_goals first
      | ((refine At_ret Tryd.results19 rfl (fun w' hw => ?_)); rw [hR2, hno (by omega)]; exact ⟨none, 0, rfl, Own.nil _ _, hw.below0 rfl⟩)
      | (apply At_rounds (k + 1, A', c'); (case hE => (try dsimp only); rw [hks]; (repeat (first | exact SubE.nil _ | refine SubE.cons rfl ?_))); (case hS => (try dsimp only); rw [hks]; exact fun w' hw => hw.sel (by (repeat (first | exact Sel.nil _ | (apply Sel.cons; (repeat (first | with_reducible exact Pick.here _ _ | with_reducible apply Pick.there))))))); (case hμ => (try dsimp only); omega); (case hp => exact ⟨by (try dsimp only); omega, hnx (by omega)⟩))
  · obtain rfl : k = ws.length - 1 := by omega
    have hall : allOf tyOf ws.tail = some (ws.tail.map (idxB typeW)) := allOf_some fun x hx => by
      obtain ⟨i, hi, rfl⟩ := List.mem_iff_getElem.1 hx
      have := hok i hi (by omega)
      unfold tyOf
      rw [if_pos this]
    rw [hR2, hall, show ws.tail.take (ws.length - 1) = ws.tail by rw [List.take_of_length_le (by omega)]]
    repeat' (first | ((first | with_reducible (first | apply TL_q | apply TD_q0 | apply TD_q1 | apply TD_q2 | apply TD_q3) | ((with_reducible (first | apply TD_q0y | apply TD_q1y)); exact rfl; exact rfl; (with_reducible exact rfl))); (first | ((with_reducible apply QS_neqBs (a := ws[0]) (b := thW)); exact rfl; exact rfl) | ((with_reducible apply QS_sliceLow (l := 1)); exact rfl; exact rfl; omega) | ((with_reducible apply QS_index (o' := k + 1)); exact rfl; exact rfl; omega; omega) | exact QS.auto); exact rfl) | (refine GO ?_) | (refine GOE ?_; (first | (rintro _ _ ⟨rfl, rfl⟩) | (rintro _ _ ⟨g, rfl, rfl⟩) | (rintro _ _ ⟨A', c', rfl, rfl⟩))) | ((refine GO2 ?_ ?_) <;> intro h <;> (try (repeat (first | with_reducible (replace h := of_decide_eq_true h) | with_reducible (replace h := of_decide_eq_false h) | with_reducible (replace h := bnt h) | with_reducible (replace h := bnf h) | with_reducible (replace h := Int.not_lt.mp h) | with_reducible (replace h := Int.not_le.mp h) | with_reducible (replace h := band_dec h) | with_reducible (replace h := band_decF h) | with_reducible (replace h := bor_dec h) | with_reducible (replace h := bor_decF h)))) <;> (try (exfalso; first | contradiction | omega))) | fail)
    (refine At_ret Tryd.results19 rfl (fun w' hw => ?_))
    exact ⟨A3, c3, rfl, hw.ownOut rfl (by first | ((repeat (first | with_reducible exact List.mem_cons_self | with_reducible apply List.mem_cons_of_mem)); done) | (repeat (first | exact List.Mem.head _ | apply List.Mem.tail))), hw.below0 rfl⟩
end
end Go.Proofs.YthecmfhoaneejaaDoor

namespace Go.Proofs.YthecmfhoaneejaaDoor
open Go.RowKit Go.Lib
set_option linter.unusedSectionVars false

theorem splitL_part {c : UInt8} {l x : Bs} (h : x ∈ splitL c l) : x.length ≤ l.length := by
  have h1 := join_split c l
  have : ∀ (ws : List Bs), x ∈ ws → x.length ≤ (joinL c ws).length := by
    intro ws
    induction ws with
    | nil => intro hx; cases hx
    | cons a r ih =>
      intro hx
      cases r with
      | nil =>
        rcases List.mem_cons.1 hx with rfl | hx
        · exact Nat.le_refl _
        · cases hx
      | cons b r =>
        show x.length ≤ (a ++ c :: joinL c (b :: r)).length
        rw [List.length_append, List.length_cons]
        rcases List.mem_cons.1 hx with rfl | hx
        · omega
        · have := ih hx; omega
  have h2 := this _ h
  rw [h1] at h2
  exact h2
theorem eventR_3 {l : Bs} {ws : List Bs} (hws : ws = splitL 32 l) (h : ws.length = 3) : eventR l = match numR (ws.getD 0 []), numR (ws.getD 1 []), kdOf (ws.getD 2 []) with
    | some a, some b, some k => if bareB k = true then some ⟨a, b, k, 0⟩ else none
    | _, _, _ => none := by
  unfold eventR
  rw [← hws]
  rcases ws with _ | ⟨a, _ | ⟨b, _ | ⟨c, _ | ⟨d, r⟩⟩⟩⟩ <;> first | rfl | (simp at h; done) | (simp at h; omega)
theorem eventR_4 {l : Bs} {ws : List Bs} (hws : ws = splitL 32 l) (h : ws.length = 4) : eventR l = match numR (ws.getD 0 []), numR (ws.getD 1 []), kdOf (ws.getD 2 []), numR (ws.getD 3 []) with
    | some a, some b, some k, some v => if bareB k = true then none else some ⟨a, b, k, v⟩
    | _, _, _, _ => none := by
  unfold eventR
  rw [← hws]
  rcases ws with _ | ⟨a, _ | ⟨b, _ | ⟨c, _ | ⟨d, _ | ⟨e, r⟩⟩⟩⟩⟩ <;> first | rfl | (simp at h; done) | (simp at h; omega)
theorem eventR_n {l : Bs} {ws : List Bs} (hws : ws = splitL 32 l) (h : ws.length ≠ 3 ∧ ws.length ≠ 4) : eventR l = none := by
  unfold eventR
  rw [← hws]
  rcases ws with _ | ⟨a, _ | ⟨b, _ | ⟨c, _ | ⟨d, _ | ⟨e, r⟩⟩⟩⟩⟩ <;> first | rfl | (exfalso; simp at h; done) | (exfalso; simp at h; omega)
theorem txSome {o : Option Int} {x : Int} (h : o.isSome = true) (hx : ∀ v, o = some v → x = v) : o = some x := by
  cases o with
  | none => cases h
  | some v => rw [hx v rfl]
section
variable (l : Bs) (w : World) (hl : l.length ≤ 1000000) (hT : TxW w)
include hl hT
/-- what the program's reading of a line hands back beside the verdict -/
abbrev EvTo (l : Bs) := {v : Ev // ∀ u, eventR l = some u → v = u}
set_option maxRecDepth 100000 in
set_option maxHeartbeats 4000000 in
theorem textEvent_any : Calls Tryd.prog 20 #[bsv l] w fun e w' => ∃ x : EvTo l, e = .returned (.tuple #[.agg (Ev.enc x.1).toArray, .bool (eventR l).isSome]) ∧ Mem ⟨0, [], w⟩ w' [] := by
  have hne := splitL_ne 32 l
  have hsl := splitL_len 32 l
  have hpl := fun x (h : x ∈ splitL 32 l) => splitL_part h
  obtain ⟨ws, hws⟩ : ∃ ws, ws = splitL 32 l := ⟨_, rfl⟩
  have hsp := fun w h => split_any 32 l w hl h
  rw [← hws] at hne hsl hpl hsp
  refine calls_T (S := []) [] Tryd.func20 rfl Tryd.ntmps20 (by simp) (Mem.nil _) ?_
  by_cases h3 : ws.length < 3
  · have hn : eventR l = none := eventR_n hws ⟨by omega, by omega⟩
    rw [show (eventR l).isSome = false by rw [hn]; rfl]
    repeat' (first | (refine GO ?_) | (refine GOE ?_; (first | (rintro _ _ ⟨rfl, rfl⟩) | (rintro _ _ ⟨g, rfl, rfl⟩) | (rintro _ _ ⟨A', c', rfl, rfl⟩))) | ((refine GO2 ?_ ?_) <;> intro h <;> (try (repeat (first | with_reducible (replace h := of_decide_eq_true h) | with_reducible (replace h := of_decide_eq_false h) | with_reducible (replace h := bnt h) | with_reducible (replace h := bnf h) | with_reducible (replace h := Int.not_lt.mp h) | with_reducible (replace h := Int.not_le.mp h) | with_reducible (replace h := band_dec h) | with_reducible (replace h := band_decF h) | with_reducible (replace h := bor_dec h) | with_reducible (replace h := bor_decF h)))) <;> (try (exfalso; first | contradiction | omega))) | ((with_reducible (first | apply TD_e2z | apply TD_e3z | apply TL_e | apply TD_e2 | apply TD_e3)); ((with_reducible apply ES_callOwn (f := 18)); exact rfl; (intro w hw; exact hsp w (hT.carry (hw.below0 rfl))); exact rfl); (first | exact rfl | exact ⟨rfl, rfl, rfl⟩); (rintro _ _ ⟨A1, c1, rfl, rfl⟩); (try refine ⟨SUB, ?_⟩)) | fail)
    all_goals first | (exfalso; omega) | skip
    ((with_reducible apply At_retM Tryd.results20); (repeat (first | exact ResIs.nil | (apply ResIs.tmp; exact rfl) | (apply ResIs.cell; exact rfl; exact Lds.auto))); intro w' hw)
    exact ⟨⟨⟨0, 0, 0, 0⟩, fun u hu => by rw [hn] at hu; cases hu⟩, rfl, (hw.anyN 0).sel (by (repeat (first | exact Sel.nil _ | (apply Sel.cons; (repeat (first | with_reducible exact Pick.here _ _ | with_reducible apply Pick.there))))))⟩
  repeat' (first | (refine GO ?_) | (refine GOE ?_; (first | (rintro _ _ ⟨rfl, rfl⟩) | (rintro _ _ ⟨g, rfl, rfl⟩) | (rintro _ _ ⟨A', c', rfl, rfl⟩))) | ((refine GO2 ?_ ?_) <;> intro h <;> (try (repeat (first | with_reducible (replace h := of_decide_eq_true h) | with_reducible (replace h := of_decide_eq_false h) | with_reducible (replace h := bnt h) | with_reducible (replace h := bnf h) | with_reducible (replace h := Int.not_lt.mp h) | with_reducible (replace h := Int.not_le.mp h) | with_reducible (replace h := band_dec h) | with_reducible (replace h := band_decF h) | with_reducible (replace h := bor_dec h) | with_reducible (replace h := bor_decF h)))) <;> (try (exfalso; first | contradiction | omega))) | ((with_reducible (first | apply TD_e2z | apply TD_e3z | apply TL_e | apply TD_e2 | apply TD_e3)); ((with_reducible apply ES_callOwn (f := 18)); exact rfl; (intro w hw; exact hsp w (hT.carry (hw.below0 rfl))); exact rfl); (first | exact rfl | exact ⟨rfl, rfl, rfl⟩); (rintro _ _ ⟨A1, c1, rfl, rfl⟩); (try refine ⟨SUB, ?_⟩)) | fail)
  all_goals first | (exfalso; omega) | skip
  refine TL_fact (p := ws.length ≤ c1 ∧ (A1 = none → c1 = 0)) (fun w hw => hw.ownFacts (enc := strEnc) (M := 1) (et := 9) (by first | ((repeat (first | with_reducible exact List.mem_cons_self | with_reducible apply List.mem_cons_of_mem)); done) | (repeat (first | exact List.Mem.head _ | apply List.Mem.tail)))) fun hf => ?_
  refine TL_own (enc := strEnc) (ls := ws) (by first | ((repeat (first | with_reducible exact List.mem_cons_self | with_reducible apply List.mem_cons_of_mem)); done) | (repeat (first | exact List.Mem.head _ | apply List.Mem.tail))) (by omega) ?_
  rintro g1 rfl
  have hl0 := hpl ws[0] (List.getElem_mem _)
  have hl1 := hpl ws[1] (List.getElem_mem _)
  have hl2 := hpl ws[2] (List.getElem_mem _)
  repeat' (first | (refine GO ?_) | (refine GOE ?_; (first | (rintro _ _ ⟨rfl, rfl⟩) | (rintro _ _ ⟨g, rfl, rfl⟩) | (rintro _ _ ⟨A', c', rfl, rfl⟩))) | ((refine GO2 ?_ ?_) <;> intro h <;> (try (repeat (first | with_reducible (replace h := of_decide_eq_true h) | with_reducible (replace h := of_decide_eq_false h) | with_reducible (replace h := bnt h) | with_reducible (replace h := bnf h) | with_reducible (replace h := Int.not_lt.mp h) | with_reducible (replace h := Int.not_le.mp h) | with_reducible (replace h := band_dec h) | with_reducible (replace h := band_decF h) | with_reducible (replace h := bor_dec h) | with_reducible (replace h := bor_decF h)))) <;> (try (exfalso; first | contradiction | omega))) | fail)
  ((with_reducible (first | apply TD_e2z | apply TD_e3z | apply TL_e | apply TD_e2 | apply TD_e3)); ((with_reducible apply ES_callX (f := 36) (X := {n : Int // ∀ v, numR ws[0] = some v → n = v}) (S1 := []) (fun x => .tuple #[.int .i64 x.1, .bool (numR ws[0]).isSome]) (fun _ => [])); exact rfl; ((repeat (first | exact Pull.nil _ | (apply Pull.cons; (repeat (first | with_reducible exact Pick.here _ _ | with_reducible apply Pick.there)))))); (intro x; (try dsimp only); repeat (first | exact AppL.nil _ | apply AppL.cons)); (intro w hw; exact number_any ws[0] w (by omega) (hT.carry (hw.below0 rfl))); exact rfl); (first | exact rfl | exact ⟨rfl, rfl, rfl⟩); (rintro _ _ ⟨⟨xa, hxa⟩, rfl, rfl⟩); (try refine ⟨SUB, ?_⟩))
  dsimp only
  repeat' (first | (refine GO ?_) | (refine GOE ?_; (first | (rintro _ _ ⟨rfl, rfl⟩) | (rintro _ _ ⟨g, rfl, rfl⟩) | (rintro _ _ ⟨A', c', rfl, rfl⟩))) | ((refine GO2 ?_ ?_) <;> intro h <;> (try (repeat (first | with_reducible (replace h := of_decide_eq_true h) | with_reducible (replace h := of_decide_eq_false h) | with_reducible (replace h := bnt h) | with_reducible (replace h := bnf h) | with_reducible (replace h := Int.not_lt.mp h) | with_reducible (replace h := Int.not_le.mp h) | with_reducible (replace h := band_dec h) | with_reducible (replace h := band_decF h) | with_reducible (replace h := bor_dec h) | with_reducible (replace h := bor_decF h)))) <;> (try (exfalso; first | contradiction | omega))) | fail)
  ((with_reducible (first | apply TD_e2z | apply TD_e3z | apply TL_e | apply TD_e2 | apply TD_e3)); ((with_reducible apply ES_callX (f := 36) (X := {n : Int // ∀ v, numR ws[1] = some v → n = v}) (S1 := []) (fun x => .tuple #[.int .i64 x.1, .bool (numR ws[1]).isSome]) (fun _ => [])); exact rfl; ((repeat (first | exact Pull.nil _ | (apply Pull.cons; (repeat (first | with_reducible exact Pick.here _ _ | with_reducible apply Pick.there)))))); (intro x; (try dsimp only); repeat (first | exact AppL.nil _ | apply AppL.cons)); (intro w hw; exact number_any ws[1] w (by omega) (hT.carry (hw.below0 rfl))); exact rfl); (first | exact rfl | exact ⟨rfl, rfl, rfl⟩); (rintro _ _ ⟨⟨xb, hxb⟩, rfl, rfl⟩); (try refine ⟨SUB, ?_⟩))
  dsimp only
  have hg : ∀ i (h : i < ws.length), ws.getD i [] = ws[i] := fun i h => by simp [h]
  have hbad : (¬ (numR ws[0]).isSome = true ∨ ¬ (numR ws[1]).isSome = true ∨ idxB kindW ws[2] < 0) → eventR l = none := by
    intro hb
    by_cases e3 : ws.length = 3
    · rw [eventR_3 hws e3, hg 0 (by omega), hg 1 (by omega), hg 2 (by omega)]
      unfold kdOf
      rcases hb with hb | hb | hb
      · cases hn : numR ws[0] with
        | none => rfl
        | some v => rw [hn] at hb; exact absurd rfl hb
      · cases hn : numR ws[1] with
        | none => split <;> first | rfl | (rename_i h _; cases h)
        | some v => rw [hn] at hb; exact absurd rfl hb
      · rw [if_neg (by omega)]
        split <;> first | rfl | (rename_i h; cases h)
    by_cases e4 : ws.length = 4
    · rw [eventR_4 hws e4, hg 0 (by omega), hg 1 (by omega), hg 2 (by omega)]
      unfold kdOf
      rcases hb with hb | hb | hb
      · cases hn : numR ws[0] with
        | none => rfl
        | some v => rw [hn] at hb; exact absurd rfl hb
      · cases hn : numR ws[1] with
        | none => split <;> first | rfl | (rename_i h _ _; cases h)
        | some v => rw [hn] at hb; exact absurd rfl hb
      · rw [if_neg (by omega)]
        split <;> first | rfl | (rename_i h _; cases h)
    exact eventR_n hws ⟨e3, e4⟩
  by_cases hok : (numR ws[0]).isSome = true ∧ (numR ws[1]).isSome = true ∧ 0 ≤ idxB kindW ws[2]
  case neg =>
    have hn := hbad (by
      by_cases a : (numR ws[0]).isSome = true
      · by_cases b : (numR ws[1]).isSome = true
        · exact .inr (.inr (Int.not_le.1 fun c => hok ⟨a, b, c⟩))
        · exact .inr (.inl b)
      · exact .inl a)
    rw [show (eventR l).isSome = false by rw [hn]; rfl]
    clear hbad hg
    repeat' (first | (refine GG ?_) | (refine GE ?_; (first | (rintro _ _ ⟨rfl, rfl⟩) | (rintro _ _ ⟨g, rfl, rfl⟩) | (rintro _ _ ⟨A', c', rfl, rfl⟩)); (try refine ⟨SUB, ?_⟩)) | ((refine GO2 ?_ ?_) <;> intro h <;> (try (repeat (first | with_reducible (replace h := of_decide_eq_true h) | with_reducible (replace h := of_decide_eq_false h) | with_reducible (replace h := bnt h) | with_reducible (replace h := bnf h) | with_reducible (replace h := Int.not_lt.mp h) | with_reducible (replace h := Int.not_le.mp h) | with_reducible (replace h := band_dec h) | with_reducible (replace h := band_decF h) | with_reducible (replace h := bor_dec h) | with_reducible (replace h := bor_decF h)))) <;> (try (exfalso; first | contradiction | omega))) | (refine GOF ?_ ?_) | ((with_reducible apply T_draw (id := 6) 9 (OT.seq [(0, 0), (0, 1), (0, 3), (0, 4), (1, 5)] (.fork (OT.seq [(2, 2)] (.fork (OT.seq [(2, 6), (0, 7), (2, 8), (3, 9)] .nil) (OT.seq [(2, 8), (2, 6), (0, 7), (3, 9)] .nil))) (OT.seq [(2, 8), (2, 2), (2, 6), (0, 7), (3, 9)] .nil)))); kernel_rfl; exact rfl; kernel_rfl; (repeat (first | with_reducible exact Blind.body | with_reducible apply Blind.seq | with_reducible apply Blind.block))) | ((with_reducible (first | apply TD_e2z | apply TD_e3z | apply TL_e | apply TD_e2 | apply TD_e3)); ((with_reducible apply ES_callOwn (f := 15)); exact rfl; (intro w hw; exact kindWords_any w); exact rfl); (first | exact rfl | exact ⟨rfl, rfl, rfl⟩); (rintro _ _ ⟨A2, c2, rfl, rfl⟩); (try refine ⟨SUB, ?_⟩)) | ((with_reducible (first | apply TD_e2z | apply TD_e3z | apply TL_e | apply TD_e2 | apply TD_e3)); ((with_reducible apply ES_callV (f := 35)); exact rfl; (intro w hw; exact indexS_any A2 c2 kindW ws[2] w (by decide) (hw.ownRd (by first | ((repeat (first | with_reducible exact List.mem_cons_self | with_reducible apply List.mem_cons_of_mem)); done) | (repeat (first | exact List.Mem.head _ | apply List.Mem.tail))) (fun _ => rfl))); exact rfl); (first | exact rfl | exact ⟨rfl, rfl, rfl⟩); (rintro _ _ ⟨rfl, rfl⟩); (try refine ⟨SUB, ?_⟩)) | fail)
    all_goals first
      | (exfalso; exact hok ⟨by assumption, by assumption, by assumption⟩)
      | skip
    all_goals
      repeat' (first | (refine GO ?_) | (refine GOE ?_; (first | (rintro _ _ ⟨rfl, rfl⟩) | (rintro _ _ ⟨g, rfl, rfl⟩) | (rintro _ _ ⟨A', c', rfl, rfl⟩))) | ((refine GO2 ?_ ?_) <;> intro h <;> (try (repeat (first | with_reducible (replace h := of_decide_eq_true h) | with_reducible (replace h := of_decide_eq_false h) | with_reducible (replace h := bnt h) | with_reducible (replace h := bnf h) | with_reducible (replace h := Int.not_lt.mp h) | with_reducible (replace h := Int.not_le.mp h) | with_reducible (replace h := band_dec h) | with_reducible (replace h := band_decF h) | with_reducible (replace h := bor_dec h) | with_reducible (replace h := bor_decF h)))) <;> (try (exfalso; first | contradiction | omega))) | fail)
    all_goals
      ((with_reducible apply At_retM Tryd.results20); (repeat (first | exact ResIs.nil | (apply ResIs.tmp; exact rfl) | (apply ResIs.cell; exact rfl; exact Lds.auto))); intro w' hw)
      exact ⟨⟨⟨0, 0, 0, 0⟩, fun u hu => by rw [hn] at hu; cases hu⟩, rfl, (hw.anyN 0).sel (by (repeat (first | exact Sel.nil _ | (apply Sel.cons; (repeat (first | with_reducible exact Pick.here _ _ | with_reducible apply Pick.there))))))⟩
  have hn0 := txSome hok.1 hxa
  have hn1 := txSome hok.2.1 hxb
  obtain ⟨ix, hxe⟩ : ∃ ix, ix = idxB kindW ws[2] := ⟨_, rfl⟩
  have hk : kdOf ws[2] = some ix := by rw [hxe]; exact if_pos hok.2.2
  have he3 : ws.length = 3 → eventR l = if bareB ix = true then some ⟨xa, xb, ix, 0⟩ else none := fun e3 => by
    rw [eventR_3 hws e3, hg 0 (by omega), hg 1 (by omega), hg 2 (by omega), hn0, hn1, hk]
  have he4 : ∀ (e4 : ws.length = 4), eventR l = match numR ws[3] with | some v => if bareB ix = true then none else some ⟨xa, xb, ix, v⟩ | none => none := fun e4 => by
    rw [eventR_4 hws e4, hg 0 (by omega), hg 1 (by omega), hg 2 (by omega), hg 3 (by omega), hn0, hn1, hk]
    cases numR ws[3] <;> rfl
  have hen : ws.length ≠ 3 ∧ ws.length ≠ 4 → eventR l = none := eventR_n hws
  have hb0 : ¬ (numR ws[0]).isSome = false := by rw [hok.1]; decide
  have hb1 : ¬ (numR ws[1]).isSome = false := by rw [hok.2.1]; decide
  have hb2 := hok.2.2
  have hix := fun A c w h => indexS_any A c kindW ws[2] w (by decide) h
  rw [← hxe] at hb2 hix
  clear hbad hg hws hok
  rw [hn0, hn1, show (some xa).isSome = true from rfl, show (some xb).isSome = true from rfl]
  clear hxe
  repeat' (first | (refine GG ?_) | (refine GE ?_; (first | (rintro _ _ ⟨rfl, rfl⟩) | (rintro _ _ ⟨g, rfl, rfl⟩) | (rintro _ _ ⟨A', c', rfl, rfl⟩)); (try refine ⟨SUB, ?_⟩)) | ((refine GO2 ?_ ?_) <;> intro h <;> (try (repeat (first | with_reducible (replace h := of_decide_eq_true h) | with_reducible (replace h := of_decide_eq_false h) | with_reducible (replace h := bnt h) | with_reducible (replace h := bnf h) | with_reducible (replace h := Int.not_lt.mp h) | with_reducible (replace h := Int.not_le.mp h) | with_reducible (replace h := band_dec h) | with_reducible (replace h := band_decF h) | with_reducible (replace h := bor_dec h) | with_reducible (replace h := bor_decF h)))) <;> (try (exfalso; first | contradiction | omega))) | (refine GOF ?_ ?_) | ((with_reducible apply T_draw (id := 6) 9 (OT.seq [(0, 0), (0, 1), (0, 3), (0, 4), (1, 5)] (.fork (OT.seq [(2, 2)] (.fork (OT.seq [(2, 6), (0, 7), (2, 8), (3, 9)] .nil) (OT.seq [(2, 8), (2, 6), (0, 7), (3, 9)] .nil))) (OT.seq [(2, 8), (2, 2), (2, 6), (0, 7), (3, 9)] .nil)))); kernel_rfl; exact rfl; kernel_rfl; (repeat (first | with_reducible exact Blind.body | with_reducible apply Blind.seq | with_reducible apply Blind.block))) | ((with_reducible (first | apply TD_e2z | apply TD_e3z | apply TL_e | apply TD_e2 | apply TD_e3)); ((with_reducible apply ES_callOwn (f := 15)); exact rfl; (intro w hw; exact kindWords_any w); exact rfl); (first | exact rfl | exact ⟨rfl, rfl, rfl⟩); (rintro _ _ ⟨A2, c2, rfl, rfl⟩); (try refine ⟨SUB, ?_⟩)) | ((with_reducible (first | apply TD_e2z | apply TD_e3z | apply TL_e | apply TD_e2 | apply TD_e3)); ((with_reducible apply ES_callV (f := 35)); exact rfl; (intro w hw; exact hix A2 c2 w (hw.ownRd (by first | ((repeat (first | with_reducible exact List.mem_cons_self | with_reducible apply List.mem_cons_of_mem)); done) | (repeat (first | exact List.Mem.head _ | apply List.Mem.tail))) (fun _ => rfl))); exact rfl); (first | exact rfl | exact ⟨rfl, rfl, rfl⟩); (rintro _ _ ⟨rfl, rfl⟩); (try refine ⟨SUB, ?_⟩)) | ((with_reducible (first | apply TD_e2z | apply TD_e3z | apply TL_e | apply TD_e2 | apply TD_e3)); ((with_reducible apply ES_callV (f := 16)); exact rfl; (intro w hw; exact bare_any _ w); exact rfl); (first | exact rfl | exact ⟨rfl, rfl, rfl⟩); (rintro _ _ ⟨rfl, rfl⟩); (try refine ⟨SUB, ?_⟩)) | fail)
  all_goals first | (exfalso; omega) | skip
  all_goals first
    | (have hB : bareB ix = true := by assumption
       repeat' (first | (refine GO ?_) | (refine GOE ?_; (first | (rintro _ _ ⟨rfl, rfl⟩) | (rintro _ _ ⟨g, rfl, rfl⟩) | (rintro _ _ ⟨A', c', rfl, rfl⟩))) | ((refine GO2 ?_ ?_) <;> intro h <;> (try (repeat (first | with_reducible (replace h := of_decide_eq_true h) | with_reducible (replace h := of_decide_eq_false h) | with_reducible (replace h := bnt h) | with_reducible (replace h := bnf h) | with_reducible (replace h := Int.not_lt.mp h) | with_reducible (replace h := Int.not_le.mp h) | with_reducible (replace h := band_dec h) | with_reducible (replace h := band_decF h) | with_reducible (replace h := bor_dec h) | with_reducible (replace h := bor_decF h)))) <;> (try (exfalso; first | contradiction | omega))) | fail)
       ((with_reducible apply At_retM Tryd.results20); (repeat (first | exact ResIs.nil | (apply ResIs.tmp; exact rfl) | (apply ResIs.cell; exact rfl; exact Lds.auto))); intro w' hw)
       have hR : eventR l = if ws.length = 3 then some ⟨xa, xb, ix, 0⟩ else none := by
         by_cases e3 : ws.length = 3
         · rw [he3 e3, if_pos hB, if_pos e3]
         · rw [if_neg e3]
           by_cases e4 : ws.length = 4
           · rw [he4 e4]
             cases numR ws[3] with
             | none => rfl
             | some v => exact if_pos hB
           · exact hen ⟨e3, e4⟩
       refine ⟨⟨⟨xa, xb, ix, 0⟩, fun u hu => ?_⟩, ?_, (hw.anyN 0).sel (by (repeat (first | exact Sel.nil _ | (apply Sel.cons; (repeat (first | with_reducible exact Pick.here _ _ | with_reducible apply Pick.there))))))⟩
       · rw [hR] at hu
         split at hu
         · exact Option.some.inj hu
         · cases hu
       · have hS : (eventR l).isSome = decide ((ws.length : Int) = 3) := by
           rw [hR]
           by_cases e3 : ws.length = 3
           · rw [if_pos e3, decide_eq_true (by omega)]; rfl
           · rw [if_neg e3, decide_eq_false (by omega)]; rfl
         rw [hS]; rfl)
    | (have h4 : ws.length ≠ 4 := by omega
       have hB : bareB ix = false := by assumption
       repeat' (first | (refine GO ?_) | (refine GOE ?_; (first | (rintro _ _ ⟨rfl, rfl⟩) | (rintro _ _ ⟨g, rfl, rfl⟩) | (rintro _ _ ⟨A', c', rfl, rfl⟩))) | ((refine GO2 ?_ ?_) <;> intro h <;> (try (repeat (first | with_reducible (replace h := of_decide_eq_true h) | with_reducible (replace h := of_decide_eq_false h) | with_reducible (replace h := bnt h) | with_reducible (replace h := bnf h) | with_reducible (replace h := Int.not_lt.mp h) | with_reducible (replace h := Int.not_le.mp h) | with_reducible (replace h := band_dec h) | with_reducible (replace h := band_decF h) | with_reducible (replace h := bor_dec h) | with_reducible (replace h := bor_decF h)))) <;> (try (exfalso; first | contradiction | omega))) | fail)
       ((with_reducible apply At_retM Tryd.results20); (repeat (first | exact ResIs.nil | (apply ResIs.tmp; exact rfl) | (apply ResIs.cell; exact rfl; exact Lds.auto))); intro w' hw)
       have hR : eventR l = none := by
         by_cases e3 : ws.length = 3
         · rw [he3 e3, hB]; rfl
         · exact hen ⟨e3, h4⟩
       refine ⟨⟨⟨0, 0, 0, 0⟩, fun u hu => by rw [hR] at hu; cases hu⟩, ?_, (hw.anyN 0).sel (by (repeat (first | exact Sel.nil _ | (apply Sel.cons; (repeat (first | with_reducible exact Pick.here _ _ | with_reducible apply Pick.there))))))⟩
       rw [show (eventR l).isSome = false by rw [hR]; rfl]; rfl)
    | skip
  all_goals
    have h4 : ws.length = 4 := by omega
    have hB : bareB ix = false := by assumption
    have hl3 := hpl ws[3] (List.getElem_mem _)
    have hR := he4 h4
    rw [hB] at hR
    ((with_reducible (first | apply TD_e2z | apply TD_e3z | apply TL_e | apply TD_e2 | apply TD_e3)); ((with_reducible apply ES_callX (f := 36) (X := {n : Int // ∀ v, numR ws[3] = some v → n = v}) (S1 := []) (fun x => .tuple #[.int .i64 x.1, .bool (numR ws[3]).isSome]) (fun _ => [])); exact rfl; ((repeat (first | exact Pull.nil _ | (apply Pull.cons; (repeat (first | with_reducible exact Pick.here _ _ | with_reducible apply Pick.there)))))); (intro x; (try dsimp only); repeat (first | exact AppL.nil _ | apply AppL.cons)); (intro w hw; exact number_any ws[3] w (by omega) (hT.carry (hw.below0 rfl))); exact rfl); (first | exact rfl | exact ⟨rfl, rfl, rfl⟩); (rintro _ _ ⟨⟨xv, hxv⟩, rfl, rfl⟩); (try refine ⟨SUB, ?_⟩))
    dsimp only
    repeat' (first | (refine GO ?_) | (refine GOE ?_; (first | (rintro _ _ ⟨rfl, rfl⟩) | (rintro _ _ ⟨g, rfl, rfl⟩) | (rintro _ _ ⟨A', c', rfl, rfl⟩))) | ((refine GO2 ?_ ?_) <;> intro h <;> (try (repeat (first | with_reducible (replace h := of_decide_eq_true h) | with_reducible (replace h := of_decide_eq_false h) | with_reducible (replace h := bnt h) | with_reducible (replace h := bnf h) | with_reducible (replace h := Int.not_lt.mp h) | with_reducible (replace h := Int.not_le.mp h) | with_reducible (replace h := band_dec h) | with_reducible (replace h := band_decF h) | with_reducible (replace h := bor_dec h) | with_reducible (replace h := bor_decF h)))) <;> (try (exfalso; first | contradiction | omega))) | fail)
    ((with_reducible apply At_retM Tryd.results20); (repeat (first | exact ResIs.nil | (apply ResIs.tmp; exact rfl) | (apply ResIs.cell; exact rfl; exact Lds.auto))); intro w' hw)
    refine ⟨⟨⟨xa, xb, ix, xv⟩, fun u hu => ?_⟩, ?_, (hw.anyN 0).sel (by (repeat (first | exact Sel.nil _ | (apply Sel.cons; (repeat (first | with_reducible exact Pick.here _ _ | with_reducible apply Pick.there))))))⟩
    · rw [hR] at hu
      split at hu
      · rename_i v hv
        rw [← hxv v hv] at hu
        exact Option.some.inj hu
      · cases hu
    · have hS : (eventR l).isSome = (numR ws[3]).isSome := by
        rw [hR]
        cases numR ws[3] <;> rfl
      rw [hS]; rfl
end
end Go.Proofs.YthecmfhoaneejaaDoor
