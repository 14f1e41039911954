/- Lemmas for the walks (Loc4, Loc5). No condition. -/
import Derived.Test.YtiimjppceobkfaaG27
set_option linter.unusedSimpArgs false
set_option linter.unusedVariables false
set_option linter.unusedSectionVars false
set_option linter.unnecessarySimpa false
namespace Go.Proofs.Ytiimjppceobkfaa
open Go.RowKit

structure OwnOk (ts : List Int) (own : List Cl) : Prop where
  types : typesOk ts = true
  calls : CallsOk ts own
  few : own.length ≤ 9
  rel : RelOk own (relAhead own)
theorem own_facts {ts : List Int} {l : List Ev} {t : Nat} (h0 : (callsR ts l).2.2 = 0) (h9 : (atL (callsR ts l).1 (t : Int) (callsR ts l).1.length).length ≤ 9) : OwnOk ts (ownL (callsR ts l).1 (t : Int)) := by
  obtain ⟨h1, h2, h3, h4⟩ := callsR_inv h0
  have hK := part_kept (ts := ts) (l := l) (t : Int) h3
  have hcall := sub_calls h1 h2 hK h3
  have hpl := sub_places hK h3 l.length (Nat.le_refl _)
  have hc := clsOk_st ts l l.length
  rw [← h4] at hcall hpl hc
  have hown : subL (fun k => decide ((l.getD k default).thing = (t : Int))) (fun c => decide (c.thing = (t : Int))) (callsR ts l).1 = (ownL (callsR ts l).1 t).map (subC fun k => decide ((l.getD k default).thing = (t : Int))) := rfl
  rw [hown] at hcall
  have hol := ownL_len (callsR ts l).1 (t : Int)
  have hmem : ∀ c ∈ ownL (callsR ts l).1 (t : Int), c ∈ (callsR ts l).1 ∧ decide (c.thing = (t : Int)) = true := fun c hc => List.mem_filter.1 hc
  have hS := sub_same (fun k => decide ((l.getD k default).thing = (t : Int))) (ownL (callsR ts l).1 (t : Int))
  have hah := sub_ahead (p := fun k => decide ((l.getD k default).thing = (t : Int))) (own := ownL (callsR ts l).1 (t : Int)) (fun c hcm => by
    obtain ⟨q1, q2⟩ := hmem c hcm
    obtain ⟨i, hi, rfl⟩ := List.mem_iff_getElem.1 q1
    exact ⟨(hc.each i hi).place.1, hpl _ q1 q2⟩)
  generalize keepL l (fun k => decide ((l.getD k default).thing = (t : Int))) l.length = L' at *
  have hfew : fewS ts L' = ((ownL (callsR ts l).1 t).map (subC fun k => decide ((l.getD k default).thing = (t : Int))), 0) := by
    rw [fewS_ok (by rw [hcall]) (by rw [hcall]; simp; omega), hcall]
  have hsea := fewS_facts (ts := ts) (l := L') (by rw [hfew])
  rw [hfew] at hsea
  have hrel := relOk_ahead hsea
  rw [hah] at hrel
  refine ⟨h1, fun i hi => ?_, by omega, fun i j hb => ?_⟩
  · have := hsea.calls i (by rw [hS.len]; exact hi)
    obtain ⟨a, b, c, _, _⟩ := hS.one i
    rw [← a, ← b, ← c]
    exact this
  · obtain ⟨a, b, c, d⟩ := hrel i j hb
    rw [hS.len] at a b
    exact ⟨a, b, c, fun e => d ((hS.one i).2.2.2.2.2 e)⟩
theorem ownO_path {ts : List Int} {cs : List Cl} {t : Int} (h : OwnOk ts (ownL cs t)) {r : List Stp} (hr : ownO ts cs t = some r) : r.length ≤ (ownL cs t).length ∧ ∀ s ∈ r, 0 ≤ s.call ∧ s.call.toNat < (ownL cs t).length := by
  have hfo : foundS ts (ownL cs t) (relAhead (ownL cs t)) = srchR ts (ownL cs t) (relAhead (ownL cs t)) (ownL cs t).length [] := srch_CR h.rel _ closed_nil
  have hp := found_len (f := relAhead (ownL cs t)) h.calls (ownL cs t).length [] (path_nil h.types) r (by
    show foundS ts (ownL cs t) (relAhead (ownL cs t)) = some r
    rw [hfo]; exact hr)
  exact ⟨by have := hp.len; omega, hp.calls⟩
def partsK (ts : List Int) (cs : List Cl) (k : Nat) : List Bool := (List.range k).map fun t => (ownO ts cs (t : Nat)).isSome
theorem partsK_succ (ts : List Int) (cs : List Cl) (k : Nat) : partsK ts cs k ++ [(ownO ts cs (k : Nat)).isSome] = partsK ts cs (k + 1) := by simp [partsK, List.range_succ]
theorem partsK_len (ts : List Int) (cs : List Cl) (k : Nat) : (partsK ts cs k).length = k := by simp [partsK]
theorem local_ok {ts : List Int} {l : List Ev} (h : (localS ts l).2 = 0) : (callsR ts l).2.2 = 0 ∧ (localS ts l).1 = (callsR ts l).1 ∧ (callsR ts l).1.length ≤ 12 ∧ ∀ t, t < ts.length → (atL (callsR ts l).1 (t : Int) (callsR ts l).1.length).length ≤ 9 := by
  unfold localS at h ⊢
  by_cases h0 : (callsR ts l).2.2 = 0
  · rw [if_neg (by simp [h0])] at h ⊢
    by_cases hb : bigT ts (callsR ts l).1 = true
    · rw [if_pos hb] at h; cases h
    · rw [if_neg hb]
      unfold bigT at hb
      rw [Bool.not_eq_true, Bool.or_eq_false_iff, List.any_eq_false] at hb
      refine ⟨h0, rfl, by have := of_decide_eq_false hb.1; omega, fun t ht => ?_⟩
      have := hb.2 t (List.mem_range.2 ht)
      rw [decide_eq_true_eq] at this
      omega
  · rw [if_pos h0] at h; exact absurd h h0
section
variable (A0 B0 : Option Addr) (c0 d0 : Nat) (ts : List Int) (l : List Ev) (w : World) (hts : ts.length ≤ 9223372036854775807) (hl : l.length ≤ 9223372036854775807) (hT : RdInt w A0 ts) (hA : RdEv w B0 l)
include hts hl hT hA
set_option maxRecDepth 100000 in
set_option maxHeartbeats 4000000 in
theorem localFind_any (t : Nat) (h0 : (callsR ts l).2.2 = 0) (ht : t < ts.length) (h9 : (atL (callsR ts l).1 (t : Int) (callsR ts l).1.length).length ≤ 9) :
    Calls Try.prog 117 #[.slice A0 ts.length c0, .slice B0 l.length d0, .int .i64 (t : Nat)] w fun e w' => ∃ A c, e = .returned (.tuple #[.slice A ((ownO ts (callsR ts l).1 t).getD []).length c, .bool (ownO ts (callsR ts l).1 t).isSome]) ∧
      Own Stp.enc 2 72 w' w.heap.size (.slice A ((ownO ts (callsR ts l).1 t).getD []).length c) ((ownO ts (callsR ts l).1 t).getD []) ∧ Below w.heap.size w w' := by
  obtain ⟨p1, p2⟩ := part_found h0 ht h9
  have h200 : (partR ts l (t : Int)).length ≤ l.length := by
    unfold partR
    rw [if_pos p1]
    exact partL_len l _ _
  have hpa := fun w h1 h2 => part_any A0 B0 c0 d0 ts l (t : Int) w hts hl h1 h2
  have hfi := fun B d w h1 h2 => searchFind_any A0 B c0 d ts (partR ts l (t : Int)) w hts (by omega) h1 h2
  rw [p2] at hfi
  rw [p1] at hpa
  clear p1 p2
  generalize ownO ts (callsR ts l).1 t = o at *
  generalize partR ts l (t : Int) = L at *
  generalize fewS ts L = F at *
  refine calls_T (S := []) [] Try.func117 rfl Try.ntmps117 (by simp) (Mem.nil _) ?_
  repeat' (first | (refine GO ?_) | (refine GOE ?_; (first | (rintro _ _ ⟨rfl, rfl⟩) | (rintro _ _ ⟨g, rfl, rfl⟩) | (rintro _ _ ⟨A', c', rfl, rfl⟩))) | ((refine GO2 ?_ ?_) <;> intro h <;> (try (repeat (first | with_reducible (replace h := of_decide_eq_true h) | with_reducible (replace h := of_decide_eq_false h) | with_reducible (replace h := bnt h) | with_reducible (replace h := bnf h) | with_reducible (replace h := Int.not_lt.mp h) | with_reducible (replace h := Int.not_le.mp h) | with_reducible (replace h := band_dec h) | with_reducible (replace h := band_decF h) | with_reducible (replace h := bor_dec h) | with_reducible (replace h := bor_decF h)))) <;> (try (exfalso; first | contradiction | omega))) | ((with_reducible (first | apply TD_e2z | apply TD_e3z | apply TL_e | apply TD_e2 | apply TD_e3)); ((with_reducible apply ES_callOwn (f := 159)); exact rfl; (intro w hw; exact hpa w (hw.rd rfl hT) (hw.rd rfl hA)); exact rfl); (first | exact rfl | exact ⟨rfl, rfl, rfl⟩); (rintro _ _ ⟨A1, c1, rfl, rfl⟩); (try refine ⟨SUB, ?_⟩)) | ((with_reducible (first | apply TD_e2z | apply TD_e3z | apply TL_e | apply TD_e2 | apply TD_e3)); ((with_reducible apply ES_callOwn (f := 55)); exact rfl; (intro w hw; exact hfi _ _ w (hw.rd rfl hT) (hw.ownRd (by first | ((repeat (first | with_reducible exact List.mem_cons_self | with_reducible apply List.mem_cons_of_mem)); done) | (repeat (first | exact List.Mem.head _ | apply List.Mem.tail))) (fun _ => rfl))); exact rfl); (first | exact rfl | exact ⟨rfl, rfl, rfl⟩); (rintro _ _ ⟨A2, c2, rfl, rfl⟩); (try refine ⟨SUB, ?_⟩)) | fail)
  (refine At_ret Try.results117 rfl (fun w' hw => ?_))
  exact ⟨A2, c2, rfl, hw.ownOut rfl (by first | ((repeat (first | with_reducible exact List.mem_cons_self | with_reducible apply List.mem_cons_of_mem)); done) | (repeat (first | exact List.Mem.head _ | apply List.Mem.tail))), hw.below0 rfl⟩
set_option maxRecDepth 100000 in
set_option maxHeartbeats 4000000 in
theorem parts_any : Calls Try.prog 56 #[.slice A0 ts.length c0, .slice B0 l.length d0] w fun e w' => ∃ A c, e = .returned (.tuple #[.slice A (if (localS ts l).2 = 0 then partsK ts (localS ts l).1 ts.length else []).length c, .int .i64 (localS ts l).2]) ∧
    Own boolEnc 1 4 w' w.heap.size (.slice A (if (localS ts l).2 = 0 then partsK ts (localS ts l).1 ts.length else []).length c) (if (localS ts l).2 = 0 then partsK ts (localS ts l).1 ts.length else []) ∧ Below w.heap.size w w' := by
  have hck := fun w h1 h2 => localCheck_any A0 B0 c0 d0 ts l w hts hl h1 h2
  have hlo := local_ok (ts := ts) (l := l)
  have hfi := fun (t : Nat) a b c w h1 h2 => localFind_any A0 B0 c0 d0 ts l w hts hl h1 h2 t a b c
  generalize localS ts l = F at *
  obtain ⟨cs, er⟩ := F
  dsimp only at hck hlo ⊢
  refine calls_T (S := []) [] Try.func56 rfl Try.ntmps56 (by simp) (Mem.nil _) ?_
  by_cases h0 : er = 0
  · subst h0
    obtain ⟨k0, k1, k2, k3⟩ := hlo rfl
    rw [← k1] at k2 k3 hfi
    have hfi := fun t ht w h1 h2 => hfi t k0 ht (k3 t ht) w h1 h2
    have ht4 : ts.length ≤ 4 := by
      have := (callsR_inv k0).1
      unfold typesOk at this
      rw [Bool.and_eq_true, decide_eq_true_eq] at this
      exact this.1.2
    clear k0 k1 k2 k3 hlo
    rw [if_pos rfl]
    repeat' (first | (refine GO ?_) | (refine GOE ?_; (first | (rintro _ _ ⟨rfl, rfl⟩) | (rintro _ _ ⟨g, rfl, rfl⟩) | (rintro _ _ ⟨A', c', rfl, rfl⟩))) | ((refine GO2 ?_ ?_) <;> intro h <;> (try (repeat (first | with_reducible (replace h := of_decide_eq_true h) | with_reducible (replace h := of_decide_eq_false h) | with_reducible (replace h := bnt h) | with_reducible (replace h := bnf h) | with_reducible (replace h := Int.not_lt.mp h) | with_reducible (replace h := Int.not_le.mp h) | with_reducible (replace h := band_dec h) | with_reducible (replace h := band_decF h) | with_reducible (replace h := bor_dec h) | with_reducible (replace h := bor_decF h)))) <;> (try (exfalso; first | contradiction | omega))) | ((with_reducible (first | apply TD_e2z | apply TD_e3z | apply TL_e | apply TD_e2 | apply TD_e3)); ((with_reducible apply ES_callOwn (f := 89)); exact rfl; (intro w hw; exact hck w (hw.rd rfl hT) (hw.rd rfl hA)); exact rfl); (first | exact rfl | exact ⟨rfl, rfl, rfl⟩); (rintro _ _ ⟨A1, c1, rfl, rfl⟩); (try refine ⟨SUB, ?_⟩)) | fail)
    refine T_loop (X := Nat × Option Addr × Nat) (fun x => [(23, .int .i64 (x.1 : Nat)), (22, .int .i64 ts.length), (8, .slice x.2.1 (partsK ts cs x.1).length x.2.2), (0, .slice A0 ts.length c0), (1, .slice B0 l.length d0)])
      (fun x => [entOwn boolEnc 1 4 x.2.1 x.2.2 (partsK ts cs x.1)]) (fun x => x.1 ≤ ts.length) (fun x => ts.length - x.1) (0, none, 0) (by (try dsimp only); omega) (by (repeat (first | exact SubE.nil _ | refine SubE.cons rfl ?_))) (fun w' hw => (hw.nilOwn boolEnc 1 4).sub (by first | ((repeat (first | with_reducible exact List.nil_sublist _ | with_reducible exact List.Sublist.refl _ | with_reducible apply List.Sublist.cons_cons | with_reducible apply List.Sublist.cons)); done) | (repeat (first | exact List.nil_sublist _ | exact List.Sublist.refl _ | apply List.Sublist.cons_cons | apply List.Sublist.cons)))) ?_
    rintro ⟨k, A, c⟩ hk
    dsimp only at hk ⊢
    have hpl := partsK_len ts cs k
    by_cases hkl : k < ts.length
    · have hs := partsK_succ ts cs k
      have hfk := hfi k hkl
      generalize partsK ts cs k = L at *
      generalize ownO ts cs (k : Nat) = o at *
      repeat' (first | (refine GO ?_) | (refine GOE ?_; (first | (rintro _ _ ⟨rfl, rfl⟩) | (rintro _ _ ⟨g, rfl, rfl⟩) | (rintro _ _ ⟨A', c', rfl, rfl⟩))) | ((refine GO2 ?_ ?_) <;> intro h <;> (try (repeat (first | with_reducible (replace h := of_decide_eq_true h) | with_reducible (replace h := of_decide_eq_false h) | with_reducible (replace h := bnt h) | with_reducible (replace h := bnf h) | with_reducible (replace h := Int.not_lt.mp h) | with_reducible (replace h := Int.not_le.mp h) | with_reducible (replace h := band_dec h) | with_reducible (replace h := band_decF h) | with_reducible (replace h := bor_dec h) | with_reducible (replace h := bor_decF h)))) <;> (try (exfalso; first | contradiction | omega))) | ((with_reducible (first | apply TD_e2z | apply TD_e3z | apply TL_e | apply TD_e2 | apply TD_e3)); ((with_reducible apply ES_callOwn (f := 117)); exact rfl; (intro w hw; exact hfk w (hw.rd rfl hT) (hw.rd rfl hA)); exact rfl); (first | exact rfl | exact ⟨rfl, rfl, rfl⟩); (rintro _ _ ⟨A2, c2, rfl, rfl⟩); (try refine ⟨SUB, ?_⟩)) | ((with_reducible (first | apply TD_e2z | apply TD_e3z | apply TL_e | apply TD_e2 | apply TD_e3)); ((with_reducible apply ES_append1 (enc := boolEnc) (xx := o.isSome)); exact rfl; exact rfl; (repeat (first | with_reducible exact List.mem_cons_self | with_reducible apply List.mem_cons_of_mem)); exact rfl; exact fun _ => rfl; exact fun _ => rfl; (intro A' c'; first | ((repeat (first | with_reducible exact Upd.here _ _ _ | with_reducible apply Upd.there)); done) | (repeat (first | exact Upd.here _ _ _ | apply Upd.there))); (omega); decide; exact rfl); (first | exact rfl | exact ⟨rfl, rfl, rfl⟩); (rintro _ _ ⟨A', c', rfl, rfl⟩); (try refine ⟨SUB, ?_⟩)) | fail)
      apply At_rounds (k + 1, A', c')
      case hE => dsimp only; rw [← hs]; (repeat (first | exact SubE.nil _ | refine SubE.cons rfl ?_))
      case hS => dsimp only; rw [← hs]; exact SUBS
      case hμ => (try dsimp only); omega
      case hp => (try dsimp only); omega
    · obtain rfl : k = ts.length := by omega
      generalize partsK ts cs ts.length = L at *
      repeat' (first | (refine GO ?_) | (refine GOE ?_; (first | (rintro _ _ ⟨rfl, rfl⟩) | (rintro _ _ ⟨g, rfl, rfl⟩) | (rintro _ _ ⟨A', c', rfl, rfl⟩))) | ((refine GO2 ?_ ?_) <;> intro h <;> (try (repeat (first | with_reducible (replace h := of_decide_eq_true h) | with_reducible (replace h := of_decide_eq_false h) | with_reducible (replace h := bnt h) | with_reducible (replace h := bnf h) | with_reducible (replace h := Int.not_lt.mp h) | with_reducible (replace h := Int.not_le.mp h) | with_reducible (replace h := band_dec h) | with_reducible (replace h := band_decF h) | with_reducible (replace h := bor_dec h) | with_reducible (replace h := bor_decF h)))) <;> (try (exfalso; first | contradiction | omega))) | fail)
      (refine At_ret Try.results56 rfl (fun w' hw => ?_))
      exact ⟨A, c, rfl, hw.ownOut rfl (by first | ((repeat (first | with_reducible exact List.mem_cons_self | with_reducible apply List.mem_cons_of_mem)); done) | (repeat (first | exact List.Mem.head _ | apply List.Mem.tail))), hw.below0 rfl⟩
  · rw [if_neg h0]
    repeat' (first | (refine GO ?_) | (refine GOE ?_; (first | (rintro _ _ ⟨rfl, rfl⟩) | (rintro _ _ ⟨g, rfl, rfl⟩) | (rintro _ _ ⟨A', c', rfl, rfl⟩))) | ((refine GO2 ?_ ?_) <;> intro h <;> (try (repeat (first | with_reducible (replace h := of_decide_eq_true h) | with_reducible (replace h := of_decide_eq_false h) | with_reducible (replace h := bnt h) | with_reducible (replace h := bnf h) | with_reducible (replace h := Int.not_lt.mp h) | with_reducible (replace h := Int.not_le.mp h) | with_reducible (replace h := band_dec h) | with_reducible (replace h := band_decF h) | with_reducible (replace h := bor_dec h) | with_reducible (replace h := bor_decF h)))) <;> (try (exfalso; first | contradiction | omega))) | ((with_reducible (first | apply TD_e2z | apply TD_e3z | apply TL_e | apply TD_e2 | apply TD_e3)); ((with_reducible apply ES_callOwn (f := 89)); exact rfl; (intro w hw; exact hck w (hw.rd rfl hT) (hw.rd rfl hA)); exact rfl); (first | exact rfl | exact ⟨rfl, rfl, rfl⟩); (rintro _ _ ⟨A1, c1, rfl, rfl⟩); (try refine ⟨SUB, ?_⟩)) | fail)
    (refine At_ret Try.results56 rfl (fun w' hw => ?_))
    exact ⟨none, 0, rfl, Own.nil _ _, hw.below0 rfl⟩
end
end Go.Proofs.Ytiimjppceobkfaa

namespace Go.Proofs.Ytiimjppceobkfaa
open Go.RowKit

theorem Stp.enc_mk (a b : Int) : Stp.enc ⟨a, b⟩ = [.int .i64 a, .int .i64 b] := rfl
def putC (at_ : List Int) (s : Stp) : Stp := ⟨at_.getD s.call.toNat 0, s.res⟩
def mapK (at_ : List Int) (r : List Stp) (i : Nat) : List Stp := (r.take i).map (putC at_) ++ r.drop i
theorem mapK_len (at_ : List Int) (r : List Stp) (i : Nat) : (mapK at_ r i).length = r.length := by simp [mapK]; omega
theorem mapK_0 (at_ : List Int) (r : List Stp) : mapK at_ r 0 = r := by simp [mapK]
theorem mapK_all (at_ : List Int) (r : List Stp) : mapK at_ r r.length = r.map (putC at_) := by simp [mapK]
theorem mapK_at {at_ : List Int} {r : List Stp} {i : Nat} (hi : i < r.length) (h : i < (mapK at_ r i).length) : (mapK at_ r i)[i] = r[i] := by
  have h1 : (mapK at_ r i)[i]? = some r[i] := by
    unfold mapK
    rw [List.getElem?_append_right (by simp; omega)]
    simp [hi, show min i r.length = i by omega]
  exact Option.some.inj ((List.getElem?_eq_getElem h).symm.trans h1)
theorem mapK_set {at_ : List Int} {r : List Stp} {i : Nat} (hi : i < r.length) : (mapK at_ r i).set i (putC at_ r[i]) = mapK at_ r (i + 1) := by
  unfold mapK
  rw [List.set_append_right _ _ (by simp; omega), List.take_succ_eq_append_getElem hi, List.map_append, List.append_assoc]
  congr 1
  rw [show i - ((r.take i).map (putC at_)).length = 0 by simp; omega, List.drop_eq_getElem_cons hi]
  rfl
def rowO (ts : List Int) (cs : List Cl) (t : Nat) : List Stp := ((ownO ts cs (t : Int)).getD []).map (putC (atL cs (t : Int) cs.length))
def rowsK (ts : List Int) (cs : List Cl) (k : Nat) : List (List Stp) := (List.range k).map (rowO ts cs)
theorem rowsK_succ (ts : List Int) (cs : List Cl) (k : Nat) : rowsK ts cs (k + 1) = rowsK ts cs k ++ [rowO ts cs k] := by simp [rowsK, List.range_succ]
theorem rowsK_len (ts : List Int) (cs : List Cl) (k : Nat) : (rowsK ts cs k).length = k := by simp [rowsK]
def allO (ts : List Int) (cs : List Cl) : Bool := (List.range ts.length).all fun t : Nat => (ownO ts cs (t : Int)).isSome
theorem allO_no {ts : List Int} {cs : List Cl} {t : Nat} (ht : t < ts.length) (h : (ownO ts cs (t : Int)).isSome = false) : allO ts cs = false := by
  unfold allO
  rw [List.all_eq_false]
  exact ⟨t, List.mem_range.2 ht, by rw [h]; simp⟩
theorem allO_yes {ts : List Int} {cs : List Cl} (h : ∀ t : Nat, t < ts.length → (ownO ts cs (t : Int)).isSome = true) : allO ts cs = true := by
  unfold allO
  rw [List.all_eq_true]
  exact fun t ht => h t (List.mem_range.1 ht)
def locE (ts : List Int) (l : List Ev) : Int := if (localS ts l).2 ≠ 0 then (localS ts l).2 else if allO ts (localS ts l).1 = true then 0 else 4
def locR (ts : List Int) (l : List Ev) : List (List Stp) := if locE ts l = 0 then rowsK ts (localS ts l).1 ts.length else []
theorem OwnRows.none {α : Type} {enc : α → List Value} {M e e2 : Nat} (w : World) (B : Nat) : OwnRows enc M e e2 w B Option.none 0 [] ([] : List (List α)) := by
  refine ⟨Own.nil _ _, ⟨.nil, List.Pairwise.nil⟩, fun k h => ?_, fun k h => ?_⟩
  · rcases h with h | ⟨q, hq, _⟩
    · cases h
    · simp at hq
  · cases h
section
variable (A0 B0 : Option Addr) (c0 d0 : Nat) (ts : List Int) (l : List Ev) (w : World) (hts : ts.length ≤ 9223372036854775807) (hl : l.length ≤ 9223372036854775807) (hT : RdInt w A0 ts) (hA : RdEv w B0 l)
include hts hl hT hA
set_option maxRecDepth 100000 in
set_option maxHeartbeats 4000000 in
theorem orders_any : Calls Try.prog 57 #[.slice A0 ts.length c0, .slice B0 l.length d0] w fun e w' => ∃ A c hs, e = .returned (.tuple #[.slice A hs.length c, .int .i64 (locE ts l)]) ∧
    OwnRows Stp.enc 2 72 59 w' w.heap.size A c hs (locR ts l) ∧ Below w.heap.size w w' := by
  have hck := fun w h1 h2 => localCheck_any A0 B0 c0 d0 ts l w hts hl h1 h2
  have hlo := local_ok (ts := ts) (l := l)
  have hfi := fun (t : Nat) a b c w h1 h2 => localFind_any A0 B0 c0 d0 ts l w hts hl h1 h2 t a b c
  have hof := fun (t : Nat) a b => own_facts (ts := ts) (l := l) (t := t) a b
  unfold locR locE
  generalize localS ts l = F at *
  obtain ⟨cs, er⟩ := F
  dsimp only at hck hlo ⊢
  refine calls_T (S := []) [] Try.func57 rfl Try.ntmps57 (by simp) (Mem.nil _) ?_
  by_cases h0 : er = 0
  · subst h0
    obtain ⟨k0, k1, k2, k3⟩ := hlo rfl
    rw [← k1] at k2 k3 hfi hof
    have hfi := fun t ht w h1 h2 => hfi t k0 ht (k3 t ht) w h1 h2
    have hof := fun t ht => hof t k0 (k3 t ht)
    have ht4 : ts.length ≤ 4 := by
      have := (callsR_inv k0).1
      unfold typesOk at this
      rw [Bool.and_eq_true, decide_eq_true_eq] at this
      exact this.1.2
    have hnum := fun A c w' h => numbers_any A c cs w' h (by omega)
    clear k0 k1 k3 hlo
    rw [if_neg (by simp)]
    repeat' (first | ((first | with_reducible (first | apply TL_q | apply TD_q0 | apply TD_q1 | apply TD_q2 | apply TD_q3) | ((with_reducible (first | apply TD_q0y | apply TD_q1y)); exact rfl; exact rfl; (with_reducible exact rfl))); (first | ((with_reducible apply QS_lookH hlook); exact rfl; exact rfl; (first | ((repeat (first | with_reducible exact List.mem_cons_self | with_reducible apply List.mem_cons_of_mem)); done) | (repeat (first | exact List.Mem.head _ | apply List.Mem.tail)))) | exact QS.auto); exact rfl) | ((with_reducible (first | apply TD_e2z | apply TD_e3z | apply TL_e | apply TD_e2 | apply TD_e3)); (first | ((with_reducible apply ES_storeOwn0 (enc := Stp.enc)); exact rfl; exact rfl; (first | ((repeat (first | with_reducible exact Upd.here _ _ _ | with_reducible apply Upd.there)); done) | (repeat (first | exact Upd.here _ _ _ | apply Upd.there))); exact fun _ => rfl; ((first | exact List.getElem?_set_self (by first | assumption | omega) | exact List.getElem?_eq_getElem (by first | assumption | omega | (simp only [List.length_set]; omega)))); decide; exact Stp.enc_mk _ _; exact rfl) | exact ES.auto); (first | exact rfl | exact ⟨rfl, rfl, rfl⟩); (first | (rintro _ _ ⟨rfl, rfl⟩) | (rintro _ _ ⟨g, rfl, rfl⟩) | (rintro _ _ ⟨A', c', rfl, rfl⟩)); (try refine ⟨SUB, ?_⟩)) | (refine GO ?_) | (refine GOE ?_; (first | (rintro _ _ ⟨rfl, rfl⟩) | (rintro _ _ ⟨g, rfl, rfl⟩) | (rintro _ _ ⟨A', c', rfl, rfl⟩))) | ((refine GO2 ?_ ?_) <;> intro h <;> (try (repeat (first | with_reducible (replace h := of_decide_eq_true h) | with_reducible (replace h := of_decide_eq_false h) | with_reducible (replace h := bnt h) | with_reducible (replace h := bnf h) | with_reducible (replace h := Int.not_lt.mp h) | with_reducible (replace h := Int.not_le.mp h) | with_reducible (replace h := band_dec h) | with_reducible (replace h := band_decF h) | with_reducible (replace h := bor_dec h) | with_reducible (replace h := bor_decF h)))) <;> (try (exfalso; first | contradiction | omega))) | ((with_reducible (first | apply TD_e2z | apply TD_e3z | apply TL_e | apply TD_e2 | apply TD_e3)); ((with_reducible apply ES_callOwn (f := 89)); exact rfl; (intro w hw; exact hck w (hw.rd rfl hT) (hw.rd rfl hA)); exact rfl); (first | exact rfl | exact ⟨rfl, rfl, rfl⟩); (rintro _ _ ⟨A1, c1, rfl, rfl⟩); (try refine ⟨SUB, ?_⟩)) | ((with_reducible (first | apply TD_e2z | apply TD_e3z | apply TL_e | apply TD_e2 | apply TD_e3)); ((with_reducible apply ES_callNew (f := 118) (X := NumX cs) (fun x => .map (some x.1.1)) (fun x => [entMap Hd.v x.1.1 x.1.2, entInner intEnc 1 3 (x.1.2.map (·.2)) ((numD cs cs.length).map (·.2))])); exact rfl; (intro x; repeat (first | exact AppL.nil _ | apply AppL.cons)); (intro w hw; exact hnum _ _ w (hw.ownRd (by first | ((repeat (first | with_reducible exact List.mem_cons_self | with_reducible apply List.mem_cons_of_mem)); done) | (repeat (first | exact List.Mem.head _ | apply List.Mem.tail))) (fun _ => rfl))); exact rfl); (first | exact rfl | exact ⟨rfl, rfl, rfl⟩); (rintro _ _ ⟨x, rfl, rfl⟩); (try refine ⟨SUB, ?_⟩)) | fail)
    obtain ⟨⟨gm, H⟩, hH⟩ := x
    dsimp only at hH ⊢
    have hHl : H.length = (numD cs cs.length).length := by simpa using congrArg List.length hH
    refine T_loop (X := Nat × Option Addr × Nat × List Hd) (fun x => [(27, .int .i64 (x.1 : Nat)), (26, .int .i64 ts.length), (9, .slice x.2.1 x.2.2.2.length x.2.2.1), (8, .map (some gm)), (0, .slice A0 ts.length c0), (1, .slice B0 l.length d0)])
      (fun x => [entOwn hdEnc 1 59 x.2.1 x.2.2.1 x.2.2.2, entInner Stp.enc 2 72 x.2.2.2 (rowsK ts cs x.1), entMap Hd.v gm H, entInner intEnc 1 3 (H.map (·.2)) ((numD cs cs.length).map (·.2))])
      (fun x => x.1 ≤ ts.length ∧ ∀ t : Nat, t < x.1 → (ownO ts cs (t : Int)).isSome = true) (fun x => ts.length - x.1) (0, none, 0, []) ⟨by (try dsimp only); omega, fun t h => by (try dsimp only at h); omega⟩ (by (repeat (first | exact SubE.nil _ | refine SubE.cons rfl ?_)))
      (fun w' hw => by
        show Mem _ w' [entOwn hdEnc 1 59 none 0 [], entInner Stp.enc 2 72 [] [], entMap Hd.v gm H, entInner intEnc 1 3 (H.map (·.2)) ((numD cs cs.length).map (·.2))]
        exact ((hw.nilInner Stp.enc 2 72).nilOwn hdEnc 1 59).sel (by (repeat (first | exact Sel.nil _ | (apply Sel.cons; (repeat (first | with_reducible exact Pick.here _ _ | with_reducible apply Pick.there))))))) ?_
    rintro ⟨k, A, c, hs⟩ ⟨hk, hsome⟩
    dsimp only at hk hsome ⊢
    refine T_innerLen (enc := Stp.enc) (M := 2) (e := 72) (hs := hs) (rows := rowsK ts cs k) (by first | ((repeat (first | with_reducible exact List.mem_cons_self | with_reducible apply List.mem_cons_of_mem)); done) | (repeat (first | exact List.Mem.head _ | apply List.Mem.tail))) ?_
    intro hhl
    rw [rowsK_len] at hhl
    by_cases hkl : k < ts.length
    · have hfk := hfi k hkl
      have hop := fun r (hr : ownO ts cs (k : Int) = some r) => ownO_path (hof k hkl) hr
      have hol := ownL_len cs (k : Int)
      have hal := atL_len cs (k : Int) cs.length
      have hno := allO_no (cs := cs) hkl
      have hrs := rowsK_succ ts cs k
      have hro : rowO ts cs k = ((ownO ts cs (k : Int)).getD []).map (putC (atL cs (k : Int) cs.length)) := rfl
      have hsk : (ownO ts cs (k : Int)).isSome = true → ∀ t : Nat, t < k + 1 → (ownO ts cs (t : Int)).isSome = true := fun hs t ht => by
        by_cases e : t = k
        · subst e; exact hs
        · exact hsome t (by omega)
      generalize ownO ts cs (k : Int) = o at *
      cases o with
      | none =>
        repeat' (first | ((first | with_reducible (first | apply TL_q | apply TD_q0 | apply TD_q1 | apply TD_q2 | apply TD_q3) | ((with_reducible (first | apply TD_q0y | apply TD_q1y)); exact rfl; exact rfl; (with_reducible exact rfl))); (first | ((with_reducible apply QS_lookH hlook); exact rfl; exact rfl; (first | ((repeat (first | with_reducible exact List.mem_cons_self | with_reducible apply List.mem_cons_of_mem)); done) | (repeat (first | exact List.Mem.head _ | apply List.Mem.tail)))) | exact QS.auto); exact rfl) | ((with_reducible (first | apply TD_e2z | apply TD_e3z | apply TL_e | apply TD_e2 | apply TD_e3)); (first | ((with_reducible apply ES_storeOwn0 (enc := Stp.enc)); exact rfl; exact rfl; (first | ((repeat (first | with_reducible exact Upd.here _ _ _ | with_reducible apply Upd.there)); done) | (repeat (first | exact Upd.here _ _ _ | apply Upd.there))); exact fun _ => rfl; ((first | exact List.getElem?_set_self (by first | assumption | omega) | exact List.getElem?_eq_getElem (by first | assumption | omega | (simp only [List.length_set]; omega)))); decide; exact Stp.enc_mk _ _; exact rfl) | exact ES.auto); (first | exact rfl | exact ⟨rfl, rfl, rfl⟩); (first | (rintro _ _ ⟨rfl, rfl⟩) | (rintro _ _ ⟨g, rfl, rfl⟩) | (rintro _ _ ⟨A', c', rfl, rfl⟩)); (try refine ⟨SUB, ?_⟩)) | (refine GO ?_) | (refine GOE ?_; (first | (rintro _ _ ⟨rfl, rfl⟩) | (rintro _ _ ⟨g, rfl, rfl⟩) | (rintro _ _ ⟨A', c', rfl, rfl⟩))) | ((refine GO2 ?_ ?_) <;> intro h <;> (try (repeat (first | with_reducible (replace h := of_decide_eq_true h) | with_reducible (replace h := of_decide_eq_false h) | with_reducible (replace h := bnt h) | with_reducible (replace h := bnf h) | with_reducible (replace h := Int.not_lt.mp h) | with_reducible (replace h := Int.not_le.mp h) | with_reducible (replace h := band_dec h) | with_reducible (replace h := band_decF h) | with_reducible (replace h := bor_dec h) | with_reducible (replace h := bor_decF h)))) <;> (try (exfalso; first | contradiction | omega))) | ((with_reducible (first | apply TD_e2z | apply TD_e3z | apply TL_e | apply TD_e2 | apply TD_e3)); ((with_reducible apply ES_callOwn (f := 117)); exact rfl; (intro w hw; exact hfk w (hw.rd rfl hT) (hw.rd rfl hA)); exact rfl); (first | exact rfl | exact ⟨rfl, rfl, rfl⟩); (rintro _ _ ⟨A2, c2, rfl, rfl⟩); (try refine ⟨SUB, ?_⟩)) | fail)
        (refine At_ret Try.results57 rfl (fun w' hw => ?_))
        rw [hno rfl]
        exact ⟨none, 0, [], rfl, OwnRows.none _ _, hw.below0 rfl⟩
      | some r =>
        obtain ⟨hr1, hr2⟩ := hop r rfl
        rw [hol] at hr1 hr2
        have hsk2 := hsk rfl
        dsimp only [Option.getD_some] at hfk hro
        cases hix : idxK (H.map (·.1)) (k : Int) with
        | none =>
          have hat : atL cs (k : Int) cs.length = [] := by
            have h2 := numD_look cs (k : Int) cs.length
            rw [lookM_idx, ← hH, hix] at h2
            by_cases e : atL cs (k : Int) cs.length = []
            · exact e
            · rw [if_neg e] at h2; cases h2
          have hr0 : r = [] := by
            rw [hat] at hr1
            exact List.eq_nil_of_length_eq_zero (by simpa using hr1)
          subst hr0
          rw [List.map_nil] at hro
          repeat' (first | ((first | with_reducible (first | apply TL_q | apply TD_q0 | apply TD_q1 | apply TD_q2 | apply TD_q3) | ((with_reducible (first | apply TD_q0y | apply TD_q1y)); exact rfl; exact rfl; (with_reducible exact rfl))); (first | ((with_reducible apply QS_lookH hlook); exact rfl; exact rfl; (first | ((repeat (first | with_reducible exact List.mem_cons_self | with_reducible apply List.mem_cons_of_mem)); done) | (repeat (first | exact List.Mem.head _ | apply List.Mem.tail)))) | exact QS.auto); exact rfl) | ((with_reducible (first | apply TD_e2z | apply TD_e3z | apply TL_e | apply TD_e2 | apply TD_e3)); (first | ((with_reducible apply ES_storeOwn0 (enc := Stp.enc)); exact rfl; exact rfl; (first | ((repeat (first | with_reducible exact Upd.here _ _ _ | with_reducible apply Upd.there)); done) | (repeat (first | exact Upd.here _ _ _ | apply Upd.there))); exact fun _ => rfl; ((first | exact List.getElem?_set_self (by first | assumption | omega) | exact List.getElem?_eq_getElem (by first | assumption | omega | (simp only [List.length_set]; omega)))); decide; exact Stp.enc_mk _ _; exact rfl) | exact ES.auto); (first | exact rfl | exact ⟨rfl, rfl, rfl⟩); (first | (rintro _ _ ⟨rfl, rfl⟩) | (rintro _ _ ⟨g, rfl, rfl⟩) | (rintro _ _ ⟨A', c', rfl, rfl⟩)); (try refine ⟨SUB, ?_⟩)) | (refine GO ?_) | (refine GOE ?_; (first | (rintro _ _ ⟨rfl, rfl⟩) | (rintro _ _ ⟨g, rfl, rfl⟩) | (rintro _ _ ⟨A', c', rfl, rfl⟩))) | ((refine GO2 ?_ ?_) <;> intro h <;> (try (repeat (first | with_reducible (replace h := of_decide_eq_true h) | with_reducible (replace h := of_decide_eq_false h) | with_reducible (replace h := bnt h) | with_reducible (replace h := bnf h) | with_reducible (replace h := Int.not_lt.mp h) | with_reducible (replace h := Int.not_le.mp h) | with_reducible (replace h := band_dec h) | with_reducible (replace h := band_decF h) | with_reducible (replace h := bor_dec h) | with_reducible (replace h := bor_decF h)))) <;> (try (exfalso; first | contradiction | omega))) | ((with_reducible (first | apply TD_e2z | apply TD_e3z | apply TL_e | apply TD_e2 | apply TD_e3)); ((with_reducible apply ES_callOwn (f := 117)); exact rfl; (intro w hw; exact hfk w (hw.rd rfl hT) (hw.rd rfl hA)); exact rfl); (first | exact rfl | exact ⟨rfl, rfl, rfl⟩); (rintro _ _ ⟨A2, c2, rfl, rfl⟩); (try refine ⟨SUB, ?_⟩)) | fail)
          refine T_loop (X := Unit) (fun _ => [(41, .int .i64 0), (40, .int .i64 0), (11, .slice A2 ([] : List Stp).length c2), (10, .int .i64 (k : Nat)), (27, .int .i64 (k : Nat)), (26, .int .i64 ts.length), (9, .slice A hs.length c), (8, .map (some gm)), (0, .slice A0 ts.length c0), (1, .slice B0 l.length d0)])
            (fun _ => [entOwn Stp.enc 2 72 A2 c2 [], entOwn hdEnc 1 59 A c hs, entInner Stp.enc 2 72 hs (rowsK ts cs k), entMap Hd.v gm H, entInner intEnc 1 3 (H.map (·.2)) ((numD cs cs.length).map (·.2))]) (fun _ => True) (fun _ => 0) () trivial (by (repeat (first | exact SubE.nil _ | refine SubE.cons rfl ?_))) (fun w hw => hw) ?_
          rintro - -
          repeat' (first | ((first | with_reducible (first | apply TL_q | apply TD_q0 | apply TD_q1 | apply TD_q2 | apply TD_q3) | ((with_reducible (first | apply TD_q0y | apply TD_q1y)); exact rfl; exact rfl; (with_reducible exact rfl))); (first | ((with_reducible apply QS_lookH hlook); exact rfl; exact rfl; (first | ((repeat (first | with_reducible exact List.mem_cons_self | with_reducible apply List.mem_cons_of_mem)); done) | (repeat (first | exact List.Mem.head _ | apply List.Mem.tail)))) | exact QS.auto); exact rfl) | ((with_reducible (first | apply TD_e2z | apply TD_e3z | apply TL_e | apply TD_e2 | apply TD_e3)); (first | ((with_reducible apply ES_storeOwn0 (enc := Stp.enc)); exact rfl; exact rfl; (first | ((repeat (first | with_reducible exact Upd.here _ _ _ | with_reducible apply Upd.there)); done) | (repeat (first | exact Upd.here _ _ _ | apply Upd.there))); exact fun _ => rfl; ((first | exact List.getElem?_set_self (by first | assumption | omega) | exact List.getElem?_eq_getElem (by first | assumption | omega | (simp only [List.length_set]; omega)))); decide; exact Stp.enc_mk _ _; exact rfl) | exact ES.auto); (first | exact rfl | exact ⟨rfl, rfl, rfl⟩); (first | (rintro _ _ ⟨rfl, rfl⟩) | (rintro _ _ ⟨g, rfl, rfl⟩) | (rintro _ _ ⟨A', c', rfl, rfl⟩)); (try refine ⟨SUB, ?_⟩)) | (refine GO ?_) | (refine GOE ?_; (first | (rintro _ _ ⟨rfl, rfl⟩) | (rintro _ _ ⟨g, rfl, rfl⟩) | (rintro _ _ ⟨A', c', rfl, rfl⟩))) | ((refine GO2 ?_ ?_) <;> intro h <;> (try (repeat (first | with_reducible (replace h := of_decide_eq_true h) | with_reducible (replace h := of_decide_eq_false h) | with_reducible (replace h := bnt h) | with_reducible (replace h := bnf h) | with_reducible (replace h := Int.not_lt.mp h) | with_reducible (replace h := Int.not_le.mp h) | with_reducible (replace h := band_dec h) | with_reducible (replace h := band_decF h) | with_reducible (replace h := bor_dec h) | with_reducible (replace h := bor_decF h)))) <;> (try (exfalso; first | contradiction | omega))) | ((with_reducible (first | apply TD_e2z | apply TD_e3z | apply TL_e | apply TD_e2 | apply TD_e3)); ((with_reducible apply ES_append1 (enc := hdEnc) (xx := (⟨A2, ([] : List Stp).length, c2⟩ : Hd))); exact rfl; exact rfl; (repeat (first | with_reducible exact List.mem_cons_self | with_reducible apply List.mem_cons_of_mem)); exact rfl; exact fun _ => rfl; exact fun _ => rfl; (intro A' c'; first | ((repeat (first | with_reducible exact Upd.here _ _ _ | with_reducible apply Upd.there)); done) | (repeat (first | exact Upd.here _ _ _ | apply Upd.there))); (omega); decide; exact rfl); (first | exact rfl | exact ⟨rfl, rfl, rfl⟩); (rintro _ _ ⟨A', c', rfl, rfl⟩); (try refine ⟨SUB, ?_⟩)) | fail)
          apply At_rounds (k + 1, A', c', hs ++ [(⟨A2, ([] : List Stp).length, c2⟩ : Hd)])
          case hE => dsimp only; (repeat (first | exact SubE.nil _ | refine SubE.cons rfl ?_))
          case hS =>
            dsimp only
            rw [hrs, hro]
            intro w' hw
            have h1 := Mem.absorb (C := _) (enc := Stp.enc) (M := 2) (e := 72) (A := A2) (c := c2) (l := []) (by repeat (first | with_reducible exact Pick.here _ _ | with_reducible apply Pick.there)) (by first | ((repeat (first | with_reducible exact Upd.here _ _ _ | with_reducible apply Upd.there)); done) | (repeat (first | exact Upd.here _ _ _ | apply Upd.there))) hw
            exact h1.sel (by (repeat (first | exact Sel.nil _ | (apply Sel.cons; (repeat (first | with_reducible exact Pick.here _ _ | with_reducible apply Pick.there))))))
          case hμ => (try dsimp only); omega
          case hp => exact ⟨by (try dsimp only); omega, hsk2⟩
        | some j =>
          have hja := idxK_at hix
          have hjH : j < H.length := by simpa using (List.getElem?_eq_some_iff.1 hja).1
          have hjD : j < (numD cs cs.length).length := by omega
          have hDj : (numD cs cs.length)[j].2 = atL cs (k : Int) cs.length := by
            have h2 := numD_look cs (k : Int) cs.length
            rw [lookM_idx, ← hH, hix] at h2
            simp only [Option.bind_some, List.getElem?_eq_getElem hjD, Option.map_some] at h2
            by_cases e : atL cs (k : Int) cs.length = []
            · rw [if_pos e] at h2; cases h2
            · rw [if_neg e] at h2; exact Option.some.inj h2
          refine T_fact (fun w' hw => (hw.innerRd (enc := intEnc) (M := 1) (e := 3) (hs := H.map (·.2)) (rows := (numD cs cs.length).map (·.2)) (by first | ((repeat (first | with_reducible exact List.mem_cons_self | with_reducible apply List.mem_cons_of_mem)); done) | (repeat (first | exact List.Mem.head _ | apply List.Mem.tail))) (fun _ => rfl) (j := j) (by simpa using hjH) (by simpa using hjD)).1) ?_
          intro hn
          rw [List.getElem_map, List.getElem_map, hDj] at hn
          obtain ⟨ra, hra⟩ : ∃ x, H[j].2.a = x := ⟨_, rfl⟩
          obtain ⟨rc, hrc⟩ : ∃ x, H[j].2.c = x := ⟨_, rfl⟩
          have hHj : H[j].2 = ⟨ra, (atL cs (k : Int) cs.length).length, rc⟩ := by rw [← hra, ← hrc, ← hn]
          have hlook : (lookM H (k : Int)).getD hd0 = ⟨ra, (atL cs (k : Int) cs.length).length, rc⟩ := by
            rw [lookM_idx, hix, ← hHj]
            simp [hjH]
          refine T_mem (S' := [entOwn intEnc 1 3 ra rc (atL cs (k : Int) cs.length), entOwn hdEnc 1 59 A c hs, entInner Stp.enc 2 72 hs (rowsK ts cs k), entMap Hd.v gm H, entInner intEnc 1 3 ((H.map (·.2)).set j hd0) (((numD cs cs.length).map (·.2)).set j [])]) (fun w' hw => by
            have h1 := hw.takeRow (j := j) (hs := H.map (·.2)) (rows := (numD cs cs.length).map (·.2)) (by simpa using hjH) (by simpa using hjD) (by first | ((repeat (first | with_reducible exact Upd.here _ _ _ | with_reducible apply Upd.there)); done) | (repeat (first | exact Upd.here _ _ _ | apply Upd.there)))
            rw [List.getElem_map, List.getElem_map, hDj, hra, hrc] at h1
            exact h1) ?_
          have hback : (H.map (·.2)).set j ⟨ra, (atL cs (k : Int) cs.length).length, rc⟩ = H.map (·.2) := by
            rw [← hHj]
            apply List.ext_getElem?
            intro q
            rw [List.getElem?_set]
            split
            · rename_i e; subst e; simp [hjH]
            · rfl
          have hback2 : ((numD cs cs.length).map (·.2)).set j (atL cs (k : Int) cs.length) = (numD cs cs.length).map (·.2) := by
            rw [← hDj]
            apply List.ext_getElem?
            intro q
            rw [List.getElem?_set]
            split
            · rename_i e; subst e; simp [hjD]
            · rfl
          have hmall := mapK_all (atL cs (k : Int) cs.length) r
          rw [← hro] at hmall
          generalize atL cs (k : Int) cs.length = at_ at *
          repeat' (first | ((first | with_reducible (first | apply TL_q | apply TD_q0 | apply TD_q1 | apply TD_q2 | apply TD_q3) | ((with_reducible (first | apply TD_q0y | apply TD_q1y)); exact rfl; exact rfl; (with_reducible exact rfl))); (first | ((with_reducible apply QS_lookH hlook); exact rfl; exact rfl; (first | ((repeat (first | with_reducible exact List.mem_cons_self | with_reducible apply List.mem_cons_of_mem)); done) | (repeat (first | exact List.Mem.head _ | apply List.Mem.tail)))) | exact QS.auto); exact rfl) | ((with_reducible (first | apply TD_e2z | apply TD_e3z | apply TL_e | apply TD_e2 | apply TD_e3)); (first | ((with_reducible apply ES_storeOwn0 (enc := Stp.enc)); exact rfl; exact rfl; (first | ((repeat (first | with_reducible exact Upd.here _ _ _ | with_reducible apply Upd.there)); done) | (repeat (first | exact Upd.here _ _ _ | apply Upd.there))); exact fun _ => rfl; ((first | exact List.getElem?_set_self (by first | assumption | omega) | exact List.getElem?_eq_getElem (by first | assumption | omega | (simp only [List.length_set]; omega)))); decide; exact Stp.enc_mk _ _; exact rfl) | exact ES.auto); (first | exact rfl | exact ⟨rfl, rfl, rfl⟩); (first | (rintro _ _ ⟨rfl, rfl⟩) | (rintro _ _ ⟨g, rfl, rfl⟩) | (rintro _ _ ⟨A', c', rfl, rfl⟩)); (try refine ⟨SUB, ?_⟩)) | (refine GO ?_) | (refine GOE ?_; (first | (rintro _ _ ⟨rfl, rfl⟩) | (rintro _ _ ⟨g, rfl, rfl⟩) | (rintro _ _ ⟨A', c', rfl, rfl⟩))) | ((refine GO2 ?_ ?_) <;> intro h <;> (try (repeat (first | with_reducible (replace h := of_decide_eq_true h) | with_reducible (replace h := of_decide_eq_false h) | with_reducible (replace h := bnt h) | with_reducible (replace h := bnf h) | with_reducible (replace h := Int.not_lt.mp h) | with_reducible (replace h := Int.not_le.mp h) | with_reducible (replace h := band_dec h) | with_reducible (replace h := band_decF h) | with_reducible (replace h := bor_dec h) | with_reducible (replace h := bor_decF h)))) <;> (try (exfalso; first | contradiction | omega))) | ((with_reducible (first | apply TD_e2z | apply TD_e3z | apply TL_e | apply TD_e2 | apply TD_e3)); ((with_reducible apply ES_callOwn (f := 117)); exact rfl; (intro w hw; exact hfk w (hw.rd rfl hT) (hw.rd rfl hA)); exact rfl); (first | exact rfl | exact ⟨rfl, rfl, rfl⟩); (rintro _ _ ⟨A2, c2, rfl, rfl⟩); (try refine ⟨SUB, ?_⟩)) | fail)
          refine T_loop (X := Nat) (fun i => [(41, .int .i64 (i : Nat)), (40, .int .i64 r.length), (11, .slice A2 r.length c2), (10, .int .i64 (k : Nat)), (27, .int .i64 (k : Nat)), (26, .int .i64 ts.length), (9, .slice A hs.length c), (8, .map (some gm)), (0, .slice A0 ts.length c0), (1, .slice B0 l.length d0)])
            (fun i => [entOwn Stp.enc 2 72 A2 c2 (mapK at_ r i), entOwn intEnc 1 3 ra rc at_, entOwn hdEnc 1 59 A c hs, entInner Stp.enc 2 72 hs (rowsK ts cs k), entMap Hd.v gm H, entInner intEnc 1 3 ((H.map (·.2)).set j hd0) (((numD cs cs.length).map (·.2)).set j [])]) (fun i => i ≤ r.length) (fun i => r.length - i) 0 (by omega) (by (repeat (first | exact SubE.nil _ | refine SubE.cons rfl ?_))) (fun w hw => by rw [mapK_0]; exact hw) ?_
          intro i hi
          have hml := mapK_len at_ r i
          by_cases hil : i < r.length
          · have hma := mapK_at (at_ := at_) hil (by omega)
            have hms := mapK_set (at_ := at_) hil
            obtain ⟨hc0, hc1⟩ := hr2 r[i] (List.getElem_mem _)
            have hput : putC at_ r[i] = ⟨at_[r[i].call.toNat], r[i].res⟩ := by simp [putC, hc1]
            rw [hput] at hms
            have hms2 : ∀ x, x = r[i] → ∀ h : x.call.toNat < at_.length, (mapK at_ r i).set i ⟨at_[x.call.toNat], x.res⟩ = mapK at_ r (i + 1) := by
              rintro x rfl h
              exact hms
            have hms3 := hms2 _ hma
            rw [← hma] at hc0 hc1
            have hms4 := hms3 hc1
            clear hms hms2 hms3 hput
            refine T_own (enc := Stp.enc) (ls := mapK at_ r i) (by first | ((repeat (first | with_reducible exact List.mem_cons_self | with_reducible apply List.mem_cons_of_mem)); done) | (repeat (first | exact List.Mem.head _ | apply List.Mem.tail))) (by omega) ?_
            rintro gA rfl
            refine T_own (enc := intEnc) (ls := at_) (by first | ((repeat (first | with_reducible exact List.mem_cons_self | with_reducible apply List.mem_cons_of_mem)); done) | (repeat (first | exact List.Mem.head _ | apply List.Mem.tail))) (by omega) ?_
            rintro gR rfl
            repeat' (first | ((first | with_reducible (first | apply TL_q | apply TD_q0 | apply TD_q1 | apply TD_q2 | apply TD_q3) | ((with_reducible (first | apply TD_q0y | apply TD_q1y)); exact rfl; exact rfl; (with_reducible exact rfl))); (first | ((with_reducible apply QS_lookH hlook); exact rfl; exact rfl; (first | ((repeat (first | with_reducible exact List.mem_cons_self | with_reducible apply List.mem_cons_of_mem)); done) | (repeat (first | exact List.Mem.head _ | apply List.Mem.tail)))) | exact QS.auto); exact rfl) | ((with_reducible (first | apply TD_e2z | apply TD_e3z | apply TL_e | apply TD_e2 | apply TD_e3)); (first | ((with_reducible apply ES_storeOwn0 (enc := Stp.enc)); exact rfl; exact rfl; (first | ((repeat (first | with_reducible exact Upd.here _ _ _ | with_reducible apply Upd.there)); done) | (repeat (first | exact Upd.here _ _ _ | apply Upd.there))); exact fun _ => rfl; ((first | exact List.getElem?_set_self (by first | assumption | omega) | exact List.getElem?_eq_getElem (by first | assumption | omega | (simp only [List.length_set]; omega)))); decide; exact Stp.enc_mk _ _; exact rfl) | exact ES.auto); (first | exact rfl | exact ⟨rfl, rfl, rfl⟩); (first | (rintro _ _ ⟨rfl, rfl⟩) | (rintro _ _ ⟨g, rfl, rfl⟩) | (rintro _ _ ⟨A', c', rfl, rfl⟩)); (try refine ⟨SUB, ?_⟩)) | (refine GG ?_) | (refine GE ?_; (first | (rintro _ _ ⟨rfl, rfl⟩) | (rintro _ _ ⟨g, rfl, rfl⟩) | (rintro _ _ ⟨A', c', rfl, rfl⟩)); (try refine ⟨SUB, ?_⟩)) | ((refine GO2 ?_ ?_) <;> intro h <;> (try (repeat (first | with_reducible (replace h := of_decide_eq_true h) | with_reducible (replace h := of_decide_eq_false h) | with_reducible (replace h := bnt h) | with_reducible (replace h := bnf h) | with_reducible (replace h := Int.not_lt.mp h) | with_reducible (replace h := Int.not_le.mp h) | with_reducible (replace h := band_dec h) | with_reducible (replace h := band_decF h) | with_reducible (replace h := bor_dec h) | with_reducible (replace h := bor_decF h)))) <;> (try (exfalso; first | contradiction | omega))) | (refine GOF ?_ ?_) | ((with_reducible apply T_draw (id := 15) 14 (OT.seq [(0, 0), (0, 1), (0, 2), (0, 3), (0, 5), (0, 6), (0, 7), (0, 8), (1, 4), (1, 9), (0, 10), (1, 11), (0, 12), (0, 13), (3, 14)] .nil)); kernel_rfl; exact rfl; kernel_rfl; (repeat (first | with_reducible exact Blind.body | with_reducible apply Blind.seq | with_reducible apply Blind.block))) | fail)
            all_goals
              refine At_rounds (i + 1) hil (by omega) (by (repeat (first | exact SubE.nil _ | refine SubE.cons rfl ?_))) (fun w hw => ?_)
              rw [← hms4]
              exact hw
          · obtain rfl : i = r.length := by omega
            rw [hmall]
            rw [show r.length = (rowO ts cs k).length by rw [hro]; simp]
            repeat' (first | ((first | with_reducible (first | apply TL_q | apply TD_q0 | apply TD_q1 | apply TD_q2 | apply TD_q3) | ((with_reducible (first | apply TD_q0y | apply TD_q1y)); exact rfl; exact rfl; (with_reducible exact rfl))); (first | ((with_reducible apply QS_lookH hlook); exact rfl; exact rfl; (first | ((repeat (first | with_reducible exact List.mem_cons_self | with_reducible apply List.mem_cons_of_mem)); done) | (repeat (first | exact List.Mem.head _ | apply List.Mem.tail)))) | exact QS.auto); exact rfl) | ((with_reducible (first | apply TD_e2z | apply TD_e3z | apply TL_e | apply TD_e2 | apply TD_e3)); (first | ((with_reducible apply ES_storeOwn0 (enc := Stp.enc)); exact rfl; exact rfl; (first | ((repeat (first | with_reducible exact Upd.here _ _ _ | with_reducible apply Upd.there)); done) | (repeat (first | exact Upd.here _ _ _ | apply Upd.there))); exact fun _ => rfl; ((first | exact List.getElem?_set_self (by first | assumption | omega) | exact List.getElem?_eq_getElem (by first | assumption | omega | (simp only [List.length_set]; omega)))); decide; exact Stp.enc_mk _ _; exact rfl) | exact ES.auto); (first | exact rfl | exact ⟨rfl, rfl, rfl⟩); (first | (rintro _ _ ⟨rfl, rfl⟩) | (rintro _ _ ⟨g, rfl, rfl⟩) | (rintro _ _ ⟨A', c', rfl, rfl⟩)); (try refine ⟨SUB, ?_⟩)) | (refine GO ?_) | (refine GOE ?_; (first | (rintro _ _ ⟨rfl, rfl⟩) | (rintro _ _ ⟨g, rfl, rfl⟩) | (rintro _ _ ⟨A', c', rfl, rfl⟩))) | ((refine GO2 ?_ ?_) <;> intro h <;> (try (repeat (first | with_reducible (replace h := of_decide_eq_true h) | with_reducible (replace h := of_decide_eq_false h) | with_reducible (replace h := bnt h) | with_reducible (replace h := bnf h) | with_reducible (replace h := Int.not_lt.mp h) | with_reducible (replace h := Int.not_le.mp h) | with_reducible (replace h := band_dec h) | with_reducible (replace h := band_decF h) | with_reducible (replace h := bor_dec h) | with_reducible (replace h := bor_decF h)))) <;> (try (exfalso; first | contradiction | omega))) | ((with_reducible (first | apply TD_e2z | apply TD_e3z | apply TL_e | apply TD_e2 | apply TD_e3)); ((with_reducible apply ES_append1 (enc := hdEnc) (xx := (⟨A2, (rowO ts cs k).length, c2⟩ : Hd))); exact rfl; exact rfl; (repeat (first | with_reducible exact List.mem_cons_self | with_reducible apply List.mem_cons_of_mem)); exact rfl; exact fun _ => rfl; exact fun _ => rfl; (intro A' c'; first | ((repeat (first | with_reducible exact Upd.here _ _ _ | with_reducible apply Upd.there)); done) | (repeat (first | exact Upd.here _ _ _ | apply Upd.there))); (omega); decide; exact rfl); (first | exact rfl | exact ⟨rfl, rfl, rfl⟩); (rintro _ _ ⟨A', c', rfl, rfl⟩); (try refine ⟨SUB, ?_⟩)) | fail)
            apply At_rounds (k + 1, A', c', hs ++ [(⟨A2, (rowO ts cs k).length, c2⟩ : Hd)])
            case hE => dsimp only; (repeat (first | exact SubE.nil _ | refine SubE.cons rfl ?_))
            case hS =>
              dsimp only
              rw [hrs]
              intro w' hw
              have h1 := Mem.absorb (C := _) (enc := Stp.enc) (M := 2) (e := 72) (A := A2) (c := c2) (l := rowO ts cs k) (by repeat (first | with_reducible exact Pick.here _ _ | with_reducible apply Pick.there)) (by first | ((repeat (first | with_reducible exact Upd.here _ _ _ | with_reducible apply Upd.there)); done) | (repeat (first | exact Upd.here _ _ _ | apply Upd.there))) hw
              have h2 := Mem.putRow (C := _) (enc := intEnc) (M := 1) (e := 3) (A := ra) (c := rc) (l := at_) (j := j) (by repeat (first | with_reducible exact Pick.here _ _ | with_reducible apply Pick.there)) (by first | ((repeat (first | with_reducible exact Upd.here _ _ _ | with_reducible apply Upd.there)); done) | (repeat (first | exact Upd.here _ _ _ | apply Upd.there))) h1
              rw [List.set_set, List.set_set, hback, hback2] at h2
              exact h2.sel (by (repeat (first | exact Sel.nil _ | (apply Sel.cons; (repeat (first | with_reducible exact Pick.here _ _ | with_reducible apply Pick.there))))))
            case hμ => (try dsimp only); omega
            case hp => exact ⟨by (try dsimp only); omega, hsk2⟩
    · obtain rfl : k = ts.length := by omega
      rw [allO_yes hsome, if_pos rfl]
      repeat' (first | ((first | with_reducible (first | apply TL_q | apply TD_q0 | apply TD_q1 | apply TD_q2 | apply TD_q3) | ((with_reducible (first | apply TD_q0y | apply TD_q1y)); exact rfl; exact rfl; (with_reducible exact rfl))); (first | ((with_reducible apply QS_lookH hlook); exact rfl; exact rfl; (first | ((repeat (first | with_reducible exact List.mem_cons_self | with_reducible apply List.mem_cons_of_mem)); done) | (repeat (first | exact List.Mem.head _ | apply List.Mem.tail)))) | exact QS.auto); exact rfl) | ((with_reducible (first | apply TD_e2z | apply TD_e3z | apply TL_e | apply TD_e2 | apply TD_e3)); (first | ((with_reducible apply ES_storeOwn0 (enc := Stp.enc)); exact rfl; exact rfl; (first | ((repeat (first | with_reducible exact Upd.here _ _ _ | with_reducible apply Upd.there)); done) | (repeat (first | exact Upd.here _ _ _ | apply Upd.there))); exact fun _ => rfl; ((first | exact List.getElem?_set_self (by first | assumption | omega) | exact List.getElem?_eq_getElem (by first | assumption | omega | (simp only [List.length_set]; omega)))); decide; exact Stp.enc_mk _ _; exact rfl) | exact ES.auto); (first | exact rfl | exact ⟨rfl, rfl, rfl⟩); (first | (rintro _ _ ⟨rfl, rfl⟩) | (rintro _ _ ⟨g, rfl, rfl⟩) | (rintro _ _ ⟨A', c', rfl, rfl⟩)); (try refine ⟨SUB, ?_⟩)) | (refine GO ?_) | (refine GOE ?_; (first | (rintro _ _ ⟨rfl, rfl⟩) | (rintro _ _ ⟨g, rfl, rfl⟩) | (rintro _ _ ⟨A', c', rfl, rfl⟩))) | ((refine GO2 ?_ ?_) <;> intro h <;> (try (repeat (first | with_reducible (replace h := of_decide_eq_true h) | with_reducible (replace h := of_decide_eq_false h) | with_reducible (replace h := bnt h) | with_reducible (replace h := bnf h) | with_reducible (replace h := Int.not_lt.mp h) | with_reducible (replace h := Int.not_le.mp h) | with_reducible (replace h := band_dec h) | with_reducible (replace h := band_decF h) | with_reducible (replace h := bor_dec h) | with_reducible (replace h := bor_decF h)))) <;> (try (exfalso; first | contradiction | omega))) | fail)
      (refine At_ret Try.results57 rfl (fun w' hw => ?_))
      rw [if_pos rfl]
      exact ⟨A, c, hs, rfl, hw.rowsOut rfl (by first | ((repeat (first | with_reducible exact List.nil_sublist _ | with_reducible exact List.Sublist.refl _ | with_reducible apply List.Sublist.cons_cons | with_reducible apply List.Sublist.cons)); done) | (repeat (first | exact List.nil_sublist _ | exact List.Sublist.refl _ | apply List.Sublist.cons_cons | apply List.Sublist.cons))), hw.below0 rfl⟩
  · rw [if_pos h0]
    repeat' (first | ((first | with_reducible (first | apply TL_q | apply TD_q0 | apply TD_q1 | apply TD_q2 | apply TD_q3) | ((with_reducible (first | apply TD_q0y | apply TD_q1y)); exact rfl; exact rfl; (with_reducible exact rfl))); (first | ((with_reducible apply QS_lookH hlook); exact rfl; exact rfl; (first | ((repeat (first | with_reducible exact List.mem_cons_self | with_reducible apply List.mem_cons_of_mem)); done) | (repeat (first | exact List.Mem.head _ | apply List.Mem.tail)))) | exact QS.auto); exact rfl) | ((with_reducible (first | apply TD_e2z | apply TD_e3z | apply TL_e | apply TD_e2 | apply TD_e3)); (first | ((with_reducible apply ES_storeOwn0 (enc := Stp.enc)); exact rfl; exact rfl; (first | ((repeat (first | with_reducible exact Upd.here _ _ _ | with_reducible apply Upd.there)); done) | (repeat (first | exact Upd.here _ _ _ | apply Upd.there))); exact fun _ => rfl; ((first | exact List.getElem?_set_self (by first | assumption | omega) | exact List.getElem?_eq_getElem (by first | assumption | omega | (simp only [List.length_set]; omega)))); decide; exact Stp.enc_mk _ _; exact rfl) | exact ES.auto); (first | exact rfl | exact ⟨rfl, rfl, rfl⟩); (first | (rintro _ _ ⟨rfl, rfl⟩) | (rintro _ _ ⟨g, rfl, rfl⟩) | (rintro _ _ ⟨A', c', rfl, rfl⟩)); (try refine ⟨SUB, ?_⟩)) | (refine GO ?_) | (refine GOE ?_; (first | (rintro _ _ ⟨rfl, rfl⟩) | (rintro _ _ ⟨g, rfl, rfl⟩) | (rintro _ _ ⟨A', c', rfl, rfl⟩))) | ((refine GO2 ?_ ?_) <;> intro h <;> (try (repeat (first | with_reducible (replace h := of_decide_eq_true h) | with_reducible (replace h := of_decide_eq_false h) | with_reducible (replace h := bnt h) | with_reducible (replace h := bnf h) | with_reducible (replace h := Int.not_lt.mp h) | with_reducible (replace h := Int.not_le.mp h) | with_reducible (replace h := band_dec h) | with_reducible (replace h := band_decF h) | with_reducible (replace h := bor_dec h) | with_reducible (replace h := bor_decF h)))) <;> (try (exfalso; first | contradiction | omega))) | ((with_reducible (first | apply TD_e2z | apply TD_e3z | apply TL_e | apply TD_e2 | apply TD_e3)); ((with_reducible apply ES_callOwn (f := 89)); exact rfl; (intro w hw; exact hck w (hw.rd rfl hT) (hw.rd rfl hA)); exact rfl); (first | exact rfl | exact ⟨rfl, rfl, rfl⟩); (rintro _ _ ⟨A1, c1, rfl, rfl⟩); (try refine ⟨SUB, ?_⟩)) | fail)
    (refine At_ret Try.results57 rfl (fun w' hw => ?_))
    rw [if_neg h0]
    exact ⟨none, 0, [], rfl, OwnRows.none _ _, hw.below0 rfl⟩
end
end Go.Proofs.Ytiimjppceobkfaa
