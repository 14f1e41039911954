/- Lemmas for the walks (Hist8, Cau1, TxO, EqI, Evq). No condition. -/
import Derived.Test.YthecmfhoaneejaaDoorG06
import Derived.Test.YthecmfhoaneejaaDoorG04
import Derived.Test.YthecmfhoaneejaaDoorG05
import Derived.Test.YthecmfhoaneejaaDoorG01
set_option linter.unusedSimpArgs false
set_option linter.unusedVariables false
set_option linter.unusedSectionVars false
set_option linter.unnecessarySimpa false
namespace Go.Proofs.YthecmfhoaneejaaDoor
open Go.RowKit

theorem between_B (a b c : Int) (w : World) : Calls Tryd.prog 21 #[.int .i64 a, .int .i64 b, .int .i64 c] w fun e w' => e = .returned (.bool (decide (b ≤ a) && decide (a ≤ c))) ∧ Below w.heap.size w w' :=
  Calls.same_below (between_any a b c w)
theorem Cl.enc_mk (a b c d e f g : Int) : Cl.enc ⟨a, b, c, d, e, f, g⟩ = [.int .i64 a, .int .i64 b, .int .i64 c, .int .i64 d, .int .i64 e, .int .i64 f, .int .i64 g] := rfl
set_option maxRecDepth 100000 in
theorem kinds_T (t : Int) (w : World) : Calls Tryd.prog 24 #[.int .i64 t] w fun e w' => ∃ A c, e = .returned (.slice A (kindsL t).length c) ∧ Own intEnc 1 3 w' w.heap.size (.slice A (kindsL t).length c) (kindsL t) ∧ Below w.heap.size w w' := by
  refine calls_T (S := []) [] Tryd.func24 rfl Tryd.ntmps24 (by simp) (Mem.nil _) ?_
  repeat' (first | ((with_reducible (first | apply TD_e2z | apply TD_e3z | apply TL_e | apply TD_e2 | apply TD_e3)); (first | exact ES.auto | ((with_reducible apply ES_storeOwn); exact rfl; exact rfl; (first | ((repeat (first | with_reducible exact Upd.here _ _ _ | with_reducible apply Upd.there)); done) | (repeat (first | exact Upd.here _ _ _ | apply Upd.there))); exact fun _ => rfl; (first | exact List.getElem?_set_self (by first | assumption | omega) | exact List.getElem?_eq_getElem (by first | assumption | omega | (simp only [List.length_set]; omega))); decide; exact Cl.enc_mk _ _ _ _ _ _ _; exact rfl)); (first | exact rfl | exact ⟨rfl, rfl, rfl⟩); (first | (rintro _ _ ⟨rfl, rfl⟩) | (rintro _ _ ⟨g, rfl, rfl⟩) | (rintro _ _ ⟨A', c', rfl, rfl⟩)); (try refine ⟨SUB, ?_⟩)) | (refine GO ?_) | (refine GOE ?_; (first | (rintro _ _ ⟨rfl, rfl⟩) | (rintro _ _ ⟨g, rfl, rfl⟩) | (rintro _ _ ⟨A', c', rfl, rfl⟩))) | ((refine GO2 ?_ ?_) <;> intro h <;> (try (repeat (first | with_reducible (replace h := of_decide_eq_true h) | with_reducible (replace h := of_decide_eq_false h) | with_reducible (replace h := bnt h) | with_reducible (replace h := bnf h) | with_reducible (replace h := Int.not_lt.mp h) | with_reducible (replace h := Int.not_le.mp h) | with_reducible (replace h := band_dec h) | with_reducible (replace h := band_decF h) | with_reducible (replace h := bor_dec h) | with_reducible (replace h := bor_decF h)))) <;> (try (exfalso; first | contradiction | omega))))
  all_goals (refine At_ret Tryd.results24 rfl (fun w' hw => ?_))
  all_goals try subst_vars
  all_goals first
    | exact ⟨_, _, rfl, hw.blkOut (enc := intEnc) [1, 2] rfl (by first | ((repeat (first | with_reducible exact List.mem_cons_self | with_reducible apply List.mem_cons_of_mem)); done) | (repeat (first | exact List.Mem.head _ | apply List.Mem.tail))) rfl (fun _ => rfl) (by decide), hw.below0 rfl⟩
    | exact ⟨_, _, rfl, hw.blkOut (enc := intEnc) [3, 4] rfl (by first | ((repeat (first | with_reducible exact List.mem_cons_self | with_reducible apply List.mem_cons_of_mem)); done) | (repeat (first | exact List.Mem.head _ | apply List.Mem.tail))) rfl (fun _ => rfl) (by decide), hw.below0 rfl⟩
    | exact ⟨_, _, rfl, hw.blkOut (enc := intEnc) [5, 6] rfl (by first | ((repeat (first | with_reducible exact List.mem_cons_self | with_reducible apply List.mem_cons_of_mem)); done) | (repeat (first | exact List.Mem.head _ | apply List.Mem.tail))) rfl (fun _ => rfl) (by decide), hw.below0 rfl⟩
    | exact ⟨_, _, rfl, hw.blkOut (enc := intEnc) [7, 8, 9] rfl (by first | ((repeat (first | with_reducible exact List.mem_cons_self | with_reducible apply List.mem_cons_of_mem)); done) | (repeat (first | exact List.Mem.head _ | apply List.Mem.tail))) rfl (fun _ => rfl) (by decide), hw.below0 rfl⟩
    | exact ⟨_, _, rfl, hw.blkOut (enc := intEnc) [10] rfl (by first | ((repeat (first | with_reducible exact List.mem_cons_self | with_reducible apply List.mem_cons_of_mem)); done) | (repeat (first | exact List.Mem.head _ | apply List.Mem.tail))) rfl (fun _ => rfl) (by decide), hw.below0 rfl⟩
    | (have e : kindsL t = [] := by simp [kindsL, *]
       rw [e]; exact ⟨none, 0, rfl, Own.nil _ _, hw.below0 rfl⟩)

theorem kindsL_len (t : Int) : (kindsL t).length ≤ 9223372036854775807 := by
  unfold kindsL
  repeat' split
  all_goals decide
section
variable {ts : List Int} {cs : List Cl} {i z tt : Int} {x : Ev}
theorem evR_none (hf : formBad ts x = false) (hk : x.kind = 0) (hz : openTo cs x.who cs.length = z) (h : z < 0) : evR ts cs i x = (4, cs) := by
  unfold evR; rw [if_neg (by rw [hf]; decide), if_pos hk, hz, if_pos h]
theorem evR_bad0 {c : Cl} (hf : formBad ts x = false) (hk : x.kind = 0) (hz : openTo cs x.who cs.length = z) (h : 0 ≤ z) (hc : cs.getD z.toNat default = c) (hn : ¬ (c.thing = x.thing ∧ ansB c.kind x.value = true)) : evR ts cs i x = (3, cs) := by
  unfold evR; rw [if_neg (by rw [hf]; decide), if_pos hk, hz, if_neg (by omega), hc, if_neg hn]
theorem evR_end {c : Cl} (hf : formBad ts x = false) (hk : x.kind = 0) (hz : openTo cs x.who cs.length = z) (h : 0 ≤ z) (hc : cs.getD z.toNat default = c) (hn : c.thing = x.thing ∧ ansB c.kind x.value = true) : evR ts cs i x = (0, cs.set z.toNat { c with res := x.value, to := i }) := by
  unfold evR; rw [if_neg (by rw [hf]; decide), if_pos hk, hz, if_neg (by omega), hc, if_pos hn]
theorem evR_bad1 (hf : formBad ts x = false) (hk : ¬ x.kind = 0) (ht : ts.getD x.thing.toNat 0 = tt) (h : ((kindsL tt).contains x.kind && argB x.kind x.value) = false) : evR ts cs i x = (3, cs) := by
  unfold evR; rw [if_neg (by rw [hf]; decide), if_neg hk, ht, if_pos h]
theorem evR_twice (hf : formBad ts x = false) (hk : ¬ x.kind = 0) (ht : ts.getD x.thing.toNat 0 = tt) (h1 : (kindsL tt).contains x.kind = true) (h2 : argB x.kind x.value = true) (hz : openTo cs x.who cs.length = z) (h : 0 ≤ z) : evR ts cs i x = (5, cs) := by
  unfold evR; rw [if_neg (by rw [hf]; decide), if_neg hk, ht, if_neg (by simp only [h1, h2]; decide), hz, if_pos h]
theorem evR_push (hf : formBad ts x = false) (hk : ¬ x.kind = 0) (ht : ts.getD x.thing.toNat 0 = tt) (h1 : (kindsL tt).contains x.kind = true) (h2 : argB x.kind x.value = true) (hz : openTo cs x.who cs.length = z) (h : ¬ 0 ≤ z) : evR ts cs i x = (0, cs ++ [⟨x.who, x.thing, x.kind, x.value, 0, i, -1⟩]) := by
  unfold evR; rw [if_neg (by rw [hf]; decide), if_neg hk, ht, if_neg (by simp only [h1, h2]; decide), hz, if_neg h]
theorem thing_at {t : Int} (h : t.toNat < ts.length) (hg : ts.getD t.toNat 0 = ts[t.toNat]) : ts.getD t.toNat 0 = ts[t.toNat] := hg
end
theorem callsR_types {ts : List Int} {l : List Ev} (h : typesOk ts = false) : callsR ts l = ([], 0, 1) := by simp [callsR, typesE, h]
theorem callsR_long {ts : List Int} {l : List Ev} (h : typesOk ts = true) (hl : 200 < l.length) : callsR ts l = ([], 0, 2) := by simp [callsR, typesE, h, hl]
theorem callsR_err {ts : List Int} {l : List Ev} (h : typesOk ts = true) (hl : l.length ≤ 200) {k : Nat} (hk : k < l.length) (hno : ∀ j, j < k → erR ts l j = 0) {z : Int} (he : erR ts l k = z) (hz : z ≠ 0) : callsR ts l = ([], (k : Int), z) := by
  have hf := failR_at hk hno (by rw [he]; exact hz)
  have ht : typesE ts = 0 := by simp [typesE, h]
  simp only [callsR, ht, hf]
  rw [if_neg (by simp), if_neg (by omega), if_pos hk, he]
theorem callsR_ok {ts : List Int} {l : List Ev} (h : typesOk ts = true) (hl : l.length ≤ 200) (hno : ∀ j, j < l.length → erR ts l j = 0) : callsR ts l = (stR ts l l.length, 0, 0) := by
  have hf := failR_none hno
  have ht : typesE ts = 0 := by simp [typesE, h]
  simp only [callsR, ht, hf]
  rw [if_neg (by simp), if_neg (by omega), if_neg (by omega)]
theorem all_succ {p : Nat → Prop} {k : Nat} (h : ∀ j, j < k → p j) (hk : p k) : ∀ j, j < k + 1 → p j := fun j hj => by
  by_cases e : j = k
  · rw [e]; exact hk
  · exact h j (by omega)
theorem typesOk_no {ts : List Int} {k : Nat} (hk : k < ts.length) (h : ts[k] < 1 ∨ 5 < ts[k]) : typesOk ts = false := by
  have : ts.any badT = true := List.any_eq_true.2 ⟨ts[k], List.getElem_mem hk, by simp [badT, h]⟩
  simp [typesOk, this]
set_option maxRecDepth 100000 in
set_option maxHeartbeats 2000000 in
theorem callsOf_any (T A : Option Addr) (ct c : Nat) (ts : List Int) (l : List Ev) (w : World) (hts : ts.length ≤ 9223372036854775807) (hl : l.length ≤ 9223372036854775807) (hT : RdInt w T ts) (hA : RdEv w A l) :
    Calls Tryd.prog 6 #[.slice T ts.length ct, .slice A l.length c] w fun e w' => ∃ A' c', e = .returned (.tuple #[.slice A' (callsR ts l).1.length c', .int .i64 (callsR ts l).2.1, .int .i64 (callsR ts l).2.2]) ∧
      Own Cl.enc 7 58 w' w.heap.size (.slice A' (callsR ts l).1.length c') (callsR ts l).1 ∧ Below w.heap.size w w' := by
  refine calls_T (S := []) [] Tryd.func6 rfl Tryd.ntmps6 (by simp) (Mem.nil _) ?_
  repeat' (first | ((with_reducible (first | apply TD_e2z | apply TD_e3z | apply TL_e | apply TD_e2 | apply TD_e3)); (first | exact ES.auto | ((with_reducible apply ES_storeOwn); exact rfl; exact rfl; (first | ((repeat (first | with_reducible exact Upd.here _ _ _ | with_reducible apply Upd.there)); done) | (repeat (first | exact Upd.here _ _ _ | apply Upd.there))); exact fun _ => rfl; (first | exact List.getElem?_set_self (by first | assumption | omega) | exact List.getElem?_eq_getElem (by first | assumption | omega | (simp only [List.length_set]; omega))); decide; exact Cl.enc_mk _ _ _ _ _ _ _; exact rfl)); (first | exact rfl | exact ⟨rfl, rfl, rfl⟩); (first | (rintro _ _ ⟨rfl, rfl⟩) | (rintro _ _ ⟨g, rfl, rfl⟩) | (rintro _ _ ⟨A', c', rfl, rfl⟩)); (try refine ⟨SUB, ?_⟩)) | (refine GO ?_) | (refine GOE ?_; (first | (rintro _ _ ⟨rfl, rfl⟩) | (rintro _ _ ⟨g, rfl, rfl⟩) | (rintro _ _ ⟨A', c', rfl, rfl⟩))) | ((refine GO2 ?_ ?_) <;> intro h <;> (try (repeat (first | with_reducible (replace h := of_decide_eq_true h) | with_reducible (replace h := of_decide_eq_false h) | with_reducible (replace h := bnt h) | with_reducible (replace h := bnf h) | with_reducible (replace h := Int.not_lt.mp h) | with_reducible (replace h := Int.not_le.mp h) | with_reducible (replace h := band_dec h) | with_reducible (replace h := band_decF h) | with_reducible (replace h := bor_dec h) | with_reducible (replace h := bor_decF h)))) <;> (try (exfalso; first | contradiction | omega))))
  refine T_loop (X := Nat) (fun k => [(17, .int .i64 (k : Nat)), (16, .int .i64 ts.length), (15, .slice T ts.length ct), (0, .slice T ts.length ct), (1, .slice A l.length c)])
    (fun _ => []) (fun k => k ≤ ts.length ∧ (ts.take k).any badT = false) (fun k => ts.length - k) 0 ⟨by omega, by simp⟩ (by (repeat (first | exact SubE.nil _ | refine SubE.cons rfl ?_))) (by exact SUBS) ?_
  rintro k ⟨hk, hno⟩
  by_cases hlt : k < ts.length
  · obtain ⟨b, o, rfl, hb0⟩ := RdE.open hT (by omega)
    repeat' (first | ((with_reducible (first | apply TD_e2z | apply TD_e3z | apply TL_e | apply TD_e2 | apply TD_e3)); (first | exact ES.auto | ((with_reducible apply ES_storeOwn); exact rfl; exact rfl; (first | ((repeat (first | with_reducible exact Upd.here _ _ _ | with_reducible apply Upd.there)); done) | (repeat (first | exact Upd.here _ _ _ | apply Upd.there))); exact fun _ => rfl; (first | exact List.getElem?_set_self (by first | assumption | omega) | exact List.getElem?_eq_getElem (by first | assumption | omega | (simp only [List.length_set]; omega))); decide; exact Cl.enc_mk _ _ _ _ _ _ _; exact rfl)); (first | exact rfl | exact ⟨rfl, rfl, rfl⟩); (first | (rintro _ _ ⟨rfl, rfl⟩) | (rintro _ _ ⟨g, rfl, rfl⟩) | (rintro _ _ ⟨A', c', rfl, rfl⟩)); (try refine ⟨SUB, ?_⟩)) | (refine GO ?_) | (refine GOE ?_; (first | (rintro _ _ ⟨rfl, rfl⟩) | (rintro _ _ ⟨g, rfl, rfl⟩) | (rintro _ _ ⟨A', c', rfl, rfl⟩))) | ((refine GO2 ?_ ?_) <;> intro h <;> (try (repeat (first | with_reducible (replace h := of_decide_eq_true h) | with_reducible (replace h := of_decide_eq_false h) | with_reducible (replace h := bnt h) | with_reducible (replace h := bnf h) | with_reducible (replace h := Int.not_lt.mp h) | with_reducible (replace h := Int.not_le.mp h) | with_reducible (replace h := band_dec h) | with_reducible (replace h := band_decF h) | with_reducible (replace h := bor_dec h) | with_reducible (replace h := bor_decF h)))) <;> (try (exfalso; first | contradiction | omega))) | ((with_reducible (first | apply TD_e2z | apply TD_e3z | apply TL_e | apply TD_e2 | apply TD_e3)); ((with_reducible apply ES_callV (f := 21)); exact rfl; (intro w hw; exact between_B _ _ _ _); exact rfl); (first | exact rfl | exact ⟨rfl, rfl, rfl⟩); (rintro _ _ ⟨rfl, rfl⟩); (try refine ⟨SUB, ?_⟩)))
    · (refine At_ret Tryd.results6 rfl (fun w' hw => ?_))
      rw [callsR_types (typesOk_no hlt (by omega))]
      exact ⟨none, 0, rfl, Own.nil _ _, hw.below0 rfl⟩
    · (refine At_rounds (k + 1) ?_ ?_ ?_ ?_; (exact ⟨by omega, any_take_succ' hlt hno (by simp [badT]; omega)⟩); (omega); ((repeat (first | exact SubE.nil _ | refine SubE.cons rfl ?_))); (exact SUBS))
  · obtain rfl : k = ts.length := by omega
    repeat' (first | ((with_reducible (first | apply TD_e2z | apply TD_e3z | apply TL_e | apply TD_e2 | apply TD_e3)); (first | exact ES.auto | ((with_reducible apply ES_storeOwn); exact rfl; exact rfl; (first | ((repeat (first | with_reducible exact Upd.here _ _ _ | with_reducible apply Upd.there)); done) | (repeat (first | exact Upd.here _ _ _ | apply Upd.there))); exact fun _ => rfl; (first | exact List.getElem?_set_self (by first | assumption | omega) | exact List.getElem?_eq_getElem (by first | assumption | omega | (simp only [List.length_set]; omega))); decide; exact Cl.enc_mk _ _ _ _ _ _ _; exact rfl)); (first | exact rfl | exact ⟨rfl, rfl, rfl⟩); (first | (rintro _ _ ⟨rfl, rfl⟩) | (rintro _ _ ⟨g, rfl, rfl⟩) | (rintro _ _ ⟨A', c', rfl, rfl⟩)); (try refine ⟨SUB, ?_⟩)) | (refine GO ?_) | (refine GOE ?_; (first | (rintro _ _ ⟨rfl, rfl⟩) | (rintro _ _ ⟨g, rfl, rfl⟩) | (rintro _ _ ⟨A', c', rfl, rfl⟩))) | ((refine GO2 ?_ ?_) <;> intro h <;> (try (repeat (first | with_reducible (replace h := of_decide_eq_true h) | with_reducible (replace h := of_decide_eq_false h) | with_reducible (replace h := bnt h) | with_reducible (replace h := bnf h) | with_reducible (replace h := Int.not_lt.mp h) | with_reducible (replace h := Int.not_le.mp h) | with_reducible (replace h := band_dec h) | with_reducible (replace h := band_decF h) | with_reducible (replace h := bor_dec h) | with_reducible (replace h := bor_decF h)))) <;> (try (exfalso; first | contradiction | omega))) | ((with_reducible (first | apply TD_e2z | apply TD_e3z | apply TL_e | apply TD_e2 | apply TD_e3)); ((with_reducible apply ES_callV (f := 21)); exact rfl; (intro w hw; exact between_B _ _ _ _); exact rfl); (first | exact rfl | exact ⟨rfl, rfl, rfl⟩); (rintro _ _ ⟨rfl, rfl⟩); (try refine ⟨SUB, ?_⟩)))
    · (refine At_ret Tryd.results6 rfl (fun w' hw => ?_))
      rw [callsR_types (by simp [typesOk]; omega)]
      exact ⟨none, 0, rfl, Own.nil _ _, hw.below0 rfl⟩
    · (refine At_ret Tryd.results6 rfl (fun w' hw => ?_))
      rw [callsR_long (by rw [List.take_length] at hno; simp [typesOk, hno]; omega) (by omega)]
      exact ⟨none, 0, rfl, Own.nil _ _, hw.below0 rfl⟩
    have hok : typesOk ts = true := by rw [List.take_length] at hno; simp [typesOk, hno]; omega
    have hl2 : l.length ≤ 200 := by omega
    refine T_loop (X := Nat × Option Addr × Nat)
      (fun x => [(34, .int .i64 (x.1 : Nat)), (33, .int .i64 l.length), (32, .slice A l.length c), (9, .slice x.2.1 (stR ts l x.1).length x.2.2), (0, .slice T ts.length ct)])
      (fun x => [entOwn Cl.enc 7 58 x.2.1 x.2.2 (stR ts l x.1)]) (fun x => x.1 ≤ l.length ∧ ∀ j, j < x.1 → erR ts l j = 0) (fun x => l.length - x.1) (0, none, 0)
      ⟨by simp, by simp⟩ (by (repeat (first | exact SubE.nil _ | refine SubE.cons rfl ?_))) (fun w hw => (hw.nilOwn Cl.enc 7 58).sub (by first | ((repeat (first | with_reducible exact List.nil_sublist _ | with_reducible exact List.Sublist.refl _ | with_reducible apply List.Sublist.cons_cons | with_reducible apply List.Sublist.cons)); done) | (repeat (first | exact List.nil_sublist _ | exact List.Sublist.refl _ | apply List.Sublist.cons_cons | apply List.Sublist.cons)))) ?_
    rintro ⟨k, A1, c1⟩ ⟨hk, hno2⟩
    dsimp only at hk hno2 ⊢
    have hlen2 : (stR ts l k).length ≤ k := by rw [← (run_same ts l k).1]; exact stP_len ts l k
    by_cases hlt : k < l.length
    · obtain ⟨b, o, rfl, hb0⟩ := RdE.open hA (by omega)
      have hg : l.getD k default = l[k] := by simp [hlt]
      have hst : erR ts l k = (evR ts (stR ts l k) k l[k]).1 ∧ stR ts l (k + 1) = (evR ts (stR ts l k) k l[k]).2 := by rw [← hg]; exact ⟨rfl, rfl⟩
      generalize stR ts l k = cs at hst hlen2 ⊢
      repeat' (first | ((with_reducible (first | apply TD_e2z | apply TD_e3z | apply TL_e | apply TD_e2 | apply TD_e3)); (first | exact ES.auto | ((with_reducible apply ES_storeOwn); exact rfl; exact rfl; (first | ((repeat (first | with_reducible exact Upd.here _ _ _ | with_reducible apply Upd.there)); done) | (repeat (first | exact Upd.here _ _ _ | apply Upd.there))); exact fun _ => rfl; (first | exact List.getElem?_set_self (by first | assumption | omega) | exact List.getElem?_eq_getElem (by first | assumption | omega | (simp only [List.length_set]; omega))); decide; exact Cl.enc_mk _ _ _ _ _ _ _; exact rfl)); (first | exact rfl | exact ⟨rfl, rfl, rfl⟩); (first | (rintro _ _ ⟨rfl, rfl⟩) | (rintro _ _ ⟨g, rfl, rfl⟩) | (rintro _ _ ⟨A', c', rfl, rfl⟩)); (try refine ⟨SUB, ?_⟩)) | (refine GO ?_) | (refine GOE ?_; (first | (rintro _ _ ⟨rfl, rfl⟩) | (rintro _ _ ⟨g, rfl, rfl⟩) | (rintro _ _ ⟨A', c', rfl, rfl⟩))) | ((refine GO2 ?_ ?_) <;> intro h <;> (try (repeat (first | with_reducible (replace h := of_decide_eq_true h) | with_reducible (replace h := of_decide_eq_false h) | with_reducible (replace h := bnt h) | with_reducible (replace h := bnf h) | with_reducible (replace h := Int.not_lt.mp h) | with_reducible (replace h := Int.not_le.mp h) | with_reducible (replace h := band_dec h) | with_reducible (replace h := band_decF h) | with_reducible (replace h := bor_dec h) | with_reducible (replace h := bor_decF h)))) <;> (try (exfalso; first | contradiction | omega))) | ((with_reducible (first | apply TD_e2z | apply TD_e3z | apply TL_e | apply TD_e2 | apply TD_e3)); ((with_reducible apply ES_callV (f := 21)); exact rfl; (intro w hw; exact between_B _ _ _ _); exact rfl); (first | exact rfl | exact ⟨rfl, rfl, rfl⟩); (rintro _ _ ⟨rfl, rfl⟩); (try refine ⟨SUB, ?_⟩)))
      · (refine At_ret Tryd.results6 rfl (fun w' hw => ?_))
        have he : (evR ts cs k l[k]).1 = 3 := by unfold evR; rw [if_pos (by simp only [formBad, Bool.or_eq_true, decide_eq_true_eq]; omega)]
        rw [callsR_err hok hl2 hlt hno2 (hst.1.trans he) (by decide)]
        exact ⟨none, 0, rfl, Own.nil _ _, hw.below0 rfl⟩
      · (refine At_ret Tryd.results6 rfl (fun w' hw => ?_))
        have he : (evR ts cs k l[k]).1 = 3 := by unfold evR; rw [if_pos (by simp only [formBad, Bool.or_eq_true, decide_eq_true_eq]; omega)]
        rw [callsR_err hok hl2 hlt hno2 (hst.1.trans he) (by decide)]
        exact ⟨none, 0, rfl, Own.nil _ _, hw.below0 rfl⟩
      have hff : formBad ts l[k] = false := by simp only [formBad, Bool.or_eq_false_iff, decide_eq_false_iff_not]; omega
      refine T_loop (X := Nat)
        (fun j => [(55, .int .i64 (j : Nat)), (54, .int .i64 cs.length), (53, .slice A1 cs.length c1), (12, .int .i64 (openTo cs l[k].who j)), (11, .pointer (some ⟨g, 0, none⟩)), (10, .int .i64 (k : Nat)), (34, .int .i64 (k : Nat)), (33, .int .i64 l.length), (32, .slice (some ⟨b, o, none⟩) l.length c), (9, .slice A1 cs.length c1), (0, .slice T ts.length ct)])
        (fun _ => [entBlk g 36 (Ev.enc l[k]).toArray, entOwn Cl.enc 7 58 A1 c1 cs]) (fun j => j ≤ cs.length) (fun j => cs.length - j) 0
        (by omega) (by (repeat (first | exact SubE.nil _ | refine SubE.cons rfl ?_))) (by exact SUBS) ?_
      intro j hj
      by_cases hjl : j < cs.length
      · have hgj : cs.getD j default = cs[j] := by simp [hjl]
        refine T_own (by first | ((repeat (first | with_reducible exact List.mem_cons_self | with_reducible apply List.mem_cons_of_mem)); done) | (repeat (first | exact List.Mem.head _ | apply List.Mem.tail))) (by omega) ?_
        rintro g2 rfl
        repeat' (first | ((with_reducible (first | apply TD_e2z | apply TD_e3z | apply TL_e | apply TD_e2 | apply TD_e3)); (first | exact ES.auto | ((with_reducible apply ES_storeOwn); exact rfl; exact rfl; (first | ((repeat (first | with_reducible exact Upd.here _ _ _ | with_reducible apply Upd.there)); done) | (repeat (first | exact Upd.here _ _ _ | apply Upd.there))); exact fun _ => rfl; (first | exact List.getElem?_set_self (by first | assumption | omega) | exact List.getElem?_eq_getElem (by first | assumption | omega | (simp only [List.length_set]; omega))); decide; exact Cl.enc_mk _ _ _ _ _ _ _; exact rfl)); (first | exact rfl | exact ⟨rfl, rfl, rfl⟩); (first | (rintro _ _ ⟨rfl, rfl⟩) | (rintro _ _ ⟨g, rfl, rfl⟩) | (rintro _ _ ⟨A', c', rfl, rfl⟩)); (try refine ⟨SUB, ?_⟩)) | (refine GO ?_) | (refine GOE ?_; (first | (rintro _ _ ⟨rfl, rfl⟩) | (rintro _ _ ⟨g, rfl, rfl⟩) | (rintro _ _ ⟨A', c', rfl, rfl⟩))) | ((refine GO2 ?_ ?_) <;> intro h <;> (try (repeat (first | with_reducible (replace h := of_decide_eq_true h) | with_reducible (replace h := of_decide_eq_false h) | with_reducible (replace h := bnt h) | with_reducible (replace h := bnf h) | with_reducible (replace h := Int.not_lt.mp h) | with_reducible (replace h := Int.not_le.mp h) | with_reducible (replace h := band_dec h) | with_reducible (replace h := band_decF h) | with_reducible (replace h := bor_dec h) | with_reducible (replace h := bor_decF h)))) <;> (try (exfalso; first | contradiction | omega))))
        all_goals
          refine At_rounds (j + 1) (by show j + 1 ≤ cs.length; omega) (by omega) ?_ (by exact SUBS)
          have ho : openTo cs l[k].who (j + 1) = if cs[j].who = l[k].who ∧ cs[j].to = -1 then (j : Int) else openTo cs l[k].who j := by rw [openTo, hgj]
          rw [ho]
          first | rw [if_pos ⟨‹_›, ‹_›⟩] | rw [if_neg (by intro h; simp_all)]
          (repeat (first | exact SubE.nil _ | refine SubE.cons rfl ?_))
      · obtain rfl : j = cs.length := by omega
        have hzl := openTo_lt cs l[k].who cs.length
        generalize hz : openTo cs l[k].who cs.length = z at hzl ⊢
        obtain ⟨bt, ot, rfl, hbt⟩ := RdE.open hT (by omega)
        have hzt : l[k].thing.toNat < ts.length := by omega
        have hgt : ts.getD l[k].thing.toNat 0 = ts[l[k].thing.toNat] := by simp [hzt]
        by_cases hz0 : 0 ≤ z
        · refine T_own (by first | ((repeat (first | with_reducible exact List.mem_cons_self | with_reducible apply List.mem_cons_of_mem)); done) | (repeat (first | exact List.Mem.head _ | apply List.Mem.tail))) (by omega) ?_
          rintro g2 rfl
          have hzn : z.toNat < cs.length := by omega
          have hgz : cs.getD z.toNat default = cs[z.toNat] := by simp [hzn]
          repeat' (first | ((with_reducible (first | apply TD_e2z | apply TD_e3z | apply TL_e | apply TD_e2 | apply TD_e3)); (first | exact ES.auto | ((with_reducible apply ES_storeOwn); exact rfl; exact rfl; (first | ((repeat (first | with_reducible exact Upd.here _ _ _ | with_reducible apply Upd.there)); done) | (repeat (first | exact Upd.here _ _ _ | apply Upd.there))); exact fun _ => rfl; (first | exact List.getElem?_set_self (by first | assumption | omega) | exact List.getElem?_eq_getElem (by first | assumption | omega | (simp only [List.length_set]; omega))); decide; exact Cl.enc_mk _ _ _ _ _ _ _; exact rfl)); (first | exact rfl | exact ⟨rfl, rfl, rfl⟩); (first | (rintro _ _ ⟨rfl, rfl⟩) | (rintro _ _ ⟨g, rfl, rfl⟩) | (rintro _ _ ⟨A', c', rfl, rfl⟩)); (try refine ⟨SUB, ?_⟩)) | (refine GG ?_) | (refine GE ?_; (first | (rintro _ _ ⟨rfl, rfl⟩) | (rintro _ _ ⟨g, rfl, rfl⟩) | (rintro _ _ ⟨A', c', rfl, rfl⟩)); (try refine ⟨SUB, ?_⟩)) | ((refine GO2 ?_ ?_) <;> intro h <;> (try (repeat (first | with_reducible (replace h := of_decide_eq_true h) | with_reducible (replace h := of_decide_eq_false h) | with_reducible (replace h := bnt h) | with_reducible (replace h := bnf h) | with_reducible (replace h := Int.not_lt.mp h) | with_reducible (replace h := Int.not_le.mp h) | with_reducible (replace h := band_dec h) | with_reducible (replace h := band_decF h) | with_reducible (replace h := bor_dec h) | with_reducible (replace h := bor_decF h)))) <;> (try (exfalso; first | contradiction | omega))) | (refine GOF ?_ ?_) | ((with_reducible apply T_draw (id := 27) 1000 (OT.seq [(0, 0), (0, 1), (0, 2), (0, 3), (0, 5), (1, 4), (1, 6), (0, 7), (0, 8), (0, 9), (0, 10), (0, 11), (0, 12), (0, 14), (1, 13), (1, 15), (2, 16), (0, 17), (0, 18)] .nil)); kernel_rfl; exact rfl; kernel_rfl; (repeat (first | with_reducible exact Blind.body | with_reducible apply Blind.seq | with_reducible apply Blind.block))) | ((with_reducible apply T_draw (id := 30) 1000 (OT.seq [(0, 0), (0, 1), (0, 6), (1, 2), (0, 3), (1, 4), (1, 7), (2, 5), (2, 8), (0, 9), (0, 10), (0, 11), (0, 13), (1, 12), (1, 14), (2, 15), (0, 16), (0, 17)] .nil)); kernel_rfl; exact rfl; kernel_rfl; (repeat (first | with_reducible exact Blind.body | with_reducible apply Blind.seq | with_reducible apply Blind.block))) | ((with_reducible (first | apply TD_e2z | apply TD_e3z | apply TL_e | apply TD_e2 | apply TD_e3)); ((with_reducible apply ES_callV (f := 22)); exact rfl; (intro w hw; exact Calls.same_below (answers_any _ _ _)); exact rfl); (first | exact rfl | exact ⟨rfl, rfl, rfl⟩); (rintro _ _ ⟨rfl, rfl⟩); (try refine ⟨SUB, ?_⟩)) | ((with_reducible (first | apply TD_e2z | apply TD_e3z | apply TL_e | apply TD_e2 | apply TD_e3)); ((with_reducible apply ES_callOwn (f := 24)); exact rfl; (intro w hw; exact kinds_T _ _); exact rfl); (first | exact rfl | exact ⟨rfl, rfl, rfl⟩); (rintro _ _ ⟨A, c, rfl, rfl⟩); (try refine ⟨SUB, ?_⟩)) | ((with_reducible (first | apply TD_e2z | apply TD_e3z | apply TL_e | apply TD_e2 | apply TD_e3)); ((with_reducible apply ES_callV (f := 23)); exact rfl; (intro w hw; exact contains_any _ _ (kindsL _) _ _ (kindsL_len _) (Mem.ownRd hw (by first | ((repeat (first | with_reducible exact List.mem_cons_self | with_reducible apply List.mem_cons_of_mem)); done) | (repeat (first | exact List.Mem.head _ | apply List.Mem.tail))) (fun _ => rfl))); exact rfl); (first | exact rfl | exact ⟨rfl, rfl, rfl⟩); (rintro _ _ ⟨rfl, rfl⟩); (try refine ⟨SUB, ?_⟩)) | ((with_reducible (first | apply TD_e2z | apply TD_e3z | apply TL_e | apply TD_e2 | apply TD_e3)); ((with_reducible apply ES_callV (f := 25)); exact rfl; (intro w hw; exact asks_any _ _ _); exact rfl); (first | exact rfl | exact ⟨rfl, rfl, rfl⟩); (rintro _ _ ⟨rfl, rfl⟩); (try refine ⟨SUB, ?_⟩)) | ((with_reducible (first | apply TD_e2z | apply TD_e3z | apply TL_e | apply TD_e2 | apply TD_e3)); ((with_reducible apply ES_append (enc := Cl.enc) (xs := [(⟨l[k].who, l[k].thing, l[k].kind, l[k].value, 0, k, -1⟩ : Cl)])); exact rfl; exact rfl; exact Lies.blk (by first | ((repeat (first | with_reducible exact List.mem_cons_self | with_reducible apply List.mem_cons_of_mem)); done) | (repeat (first | exact List.Mem.head _ | apply List.Mem.tail))); exact fun _ => rfl; exact fun _ => rfl; (intro A' c'; first | ((repeat (first | with_reducible exact Upd.here _ _ _ | with_reducible apply Upd.there)); done) | (repeat (first | exact Upd.here _ _ _ | apply Upd.there))); (simp; omega); decide; exact rfl); (first | exact rfl | exact ⟨rfl, rfl, rfl⟩); (rintro _ _ ⟨A', c', rfl, rfl⟩); (try refine ⟨SUB, ?_⟩)))
          · (refine At_ret Tryd.results6 rfl (fun w' hw => ?_))
            rw [callsR_err hok hl2 hlt hno2 (hst.1.trans (congrArg Prod.fst (evR_bad0 hff ‹_› hz hz0 hgz (fun hh => absurd hh.1 ‹_›)))) (by simp)]
            exact ⟨none, 0, rfl, Own.nil _ _, hw.below0 rfl⟩
          · (refine At_ret Tryd.results6 rfl (fun w' hw => ?_))
            rw [callsR_err hok hl2 hlt hno2 (hst.1.trans (congrArg Prod.fst (evR_bad0 hff ‹_› hz hz0 hgz (fun hh => absurd hh.2 (by rw [‹ansB _ _ = false›]; simp))))) (by simp)]
            exact ⟨none, 0, rfl, Own.nil _ _, hw.below0 rfl⟩
          · have hev := evR_end hff ‹_› hz hz0 hgz ⟨‹_›, ‹_›⟩ (i := k)
            rw [hev] at hst
            refine At_rounds (k + 1, some ⟨g2, 0, none⟩, c1) ⟨by show k + 1 ≤ _; omega, all_succ hno2 hst.1⟩ (by show l.length - (k + 1) < l.length - k; omega) ?_ ?_
            · simp only [hst.2, List.length_set]; (repeat (first | exact SubE.nil _ | refine SubE.cons rfl ?_))
            · simp only [hst.2]
              intro w hw
              have := hw.sub (S' := [entOwn Cl.enc 7 58 (some ⟨g2, 0, none⟩) c1 _]) (by first | ((repeat (first | with_reducible exact List.nil_sublist _ | with_reducible exact List.Sublist.refl _ | with_reducible apply List.Sublist.cons_cons | with_reducible apply List.Sublist.cons)); done) | (repeat (first | exact List.nil_sublist _ | exact List.Sublist.refl _ | apply List.Sublist.cons_cons | apply List.Sublist.cons)))
              rw [List.set_set] at this
              exact this
          · (refine At_ret Tryd.results6 rfl (fun w' hw => ?_))
            rw [callsR_err hok hl2 hlt hno2 (hst.1.trans (congrArg Prod.fst (evR_bad1 hff ‹_› (thing_at hzt hgt) (by rw [‹List.contains _ _ = false›]; rfl)))) (by simp)]
            exact ⟨none, 0, rfl, Own.nil _ _, hw.below0 rfl⟩
          · (refine At_ret Tryd.results6 rfl (fun w' hw => ?_))
            rw [callsR_err hok hl2 hlt hno2 (hst.1.trans (congrArg Prod.fst (evR_bad1 hff ‹_› (thing_at hzt hgt) (by rw [‹argB _ _ = false›]; simp)))) (by simp)]
            exact ⟨none, 0, rfl, Own.nil _ _, hw.below0 rfl⟩
          · (refine At_ret Tryd.results6 rfl (fun w' hw => ?_))
            rw [callsR_err hok hl2 hlt hno2 (hst.1.trans (congrArg Prod.fst (evR_twice hff ‹_› (thing_at hzt hgt) ‹_› ‹_› hz hz0))) (by simp)]
            exact ⟨none, 0, rfl, Own.nil _ _, hw.below0 rfl⟩
        · repeat' (first | ((with_reducible (first | apply TD_e2z | apply TD_e3z | apply TL_e | apply TD_e2 | apply TD_e3)); (first | exact ES.auto | ((with_reducible apply ES_storeOwn); exact rfl; exact rfl; (first | ((repeat (first | with_reducible exact Upd.here _ _ _ | with_reducible apply Upd.there)); done) | (repeat (first | exact Upd.here _ _ _ | apply Upd.there))); exact fun _ => rfl; (first | exact List.getElem?_set_self (by first | assumption | omega) | exact List.getElem?_eq_getElem (by first | assumption | omega | (simp only [List.length_set]; omega))); decide; exact Cl.enc_mk _ _ _ _ _ _ _; exact rfl)); (first | exact rfl | exact ⟨rfl, rfl, rfl⟩); (first | (rintro _ _ ⟨rfl, rfl⟩) | (rintro _ _ ⟨g, rfl, rfl⟩) | (rintro _ _ ⟨A', c', rfl, rfl⟩)); (try refine ⟨SUB, ?_⟩)) | (refine GG ?_) | (refine GE ?_; (first | (rintro _ _ ⟨rfl, rfl⟩) | (rintro _ _ ⟨g, rfl, rfl⟩) | (rintro _ _ ⟨A', c', rfl, rfl⟩)); (try refine ⟨SUB, ?_⟩)) | ((refine GO2 ?_ ?_) <;> intro h <;> (try (repeat (first | with_reducible (replace h := of_decide_eq_true h) | with_reducible (replace h := of_decide_eq_false h) | with_reducible (replace h := bnt h) | with_reducible (replace h := bnf h) | with_reducible (replace h := Int.not_lt.mp h) | with_reducible (replace h := Int.not_le.mp h) | with_reducible (replace h := band_dec h) | with_reducible (replace h := band_decF h) | with_reducible (replace h := bor_dec h) | with_reducible (replace h := bor_decF h)))) <;> (try (exfalso; first | contradiction | omega))) | (refine GOF ?_ ?_) | ((with_reducible apply T_draw (id := 27) 1000 (OT.seq [(0, 0), (0, 1), (0, 2), (0, 3), (0, 5), (1, 4), (1, 6), (0, 7), (0, 8), (0, 9), (0, 10), (0, 11), (0, 12), (0, 14), (1, 13), (1, 15), (2, 16), (0, 17), (0, 18)] .nil)); kernel_rfl; exact rfl; kernel_rfl; (repeat (first | with_reducible exact Blind.body | with_reducible apply Blind.seq | with_reducible apply Blind.block))) | ((with_reducible apply T_draw (id := 30) 1000 (OT.seq [(0, 0), (0, 1), (0, 6), (1, 2), (0, 3), (1, 4), (1, 7), (2, 5), (2, 8), (0, 9), (0, 10), (0, 11), (0, 13), (1, 12), (1, 14), (2, 15), (0, 16), (0, 17)] .nil)); kernel_rfl; exact rfl; kernel_rfl; (repeat (first | with_reducible exact Blind.body | with_reducible apply Blind.seq | with_reducible apply Blind.block))) | ((with_reducible (first | apply TD_e2z | apply TD_e3z | apply TL_e | apply TD_e2 | apply TD_e3)); ((with_reducible apply ES_callV (f := 22)); exact rfl; (intro w hw; exact Calls.same_below (answers_any _ _ _)); exact rfl); (first | exact rfl | exact ⟨rfl, rfl, rfl⟩); (rintro _ _ ⟨rfl, rfl⟩); (try refine ⟨SUB, ?_⟩)) | ((with_reducible (first | apply TD_e2z | apply TD_e3z | apply TL_e | apply TD_e2 | apply TD_e3)); ((with_reducible apply ES_callOwn (f := 24)); exact rfl; (intro w hw; exact kinds_T _ _); exact rfl); (first | exact rfl | exact ⟨rfl, rfl, rfl⟩); (rintro _ _ ⟨A, c, rfl, rfl⟩); (try refine ⟨SUB, ?_⟩)) | ((with_reducible (first | apply TD_e2z | apply TD_e3z | apply TL_e | apply TD_e2 | apply TD_e3)); ((with_reducible apply ES_callV (f := 23)); exact rfl; (intro w hw; exact contains_any _ _ (kindsL _) _ _ (kindsL_len _) (Mem.ownRd hw (by first | ((repeat (first | with_reducible exact List.mem_cons_self | with_reducible apply List.mem_cons_of_mem)); done) | (repeat (first | exact List.Mem.head _ | apply List.Mem.tail))) (fun _ => rfl))); exact rfl); (first | exact rfl | exact ⟨rfl, rfl, rfl⟩); (rintro _ _ ⟨rfl, rfl⟩); (try refine ⟨SUB, ?_⟩)) | ((with_reducible (first | apply TD_e2z | apply TD_e3z | apply TL_e | apply TD_e2 | apply TD_e3)); ((with_reducible apply ES_callV (f := 25)); exact rfl; (intro w hw; exact asks_any _ _ _); exact rfl); (first | exact rfl | exact ⟨rfl, rfl, rfl⟩); (rintro _ _ ⟨rfl, rfl⟩); (try refine ⟨SUB, ?_⟩)) | ((with_reducible (first | apply TD_e2z | apply TD_e3z | apply TL_e | apply TD_e2 | apply TD_e3)); ((with_reducible apply ES_append (enc := Cl.enc) (xs := [(⟨l[k].who, l[k].thing, l[k].kind, l[k].value, 0, k, -1⟩ : Cl)])); exact rfl; exact rfl; exact Lies.blk (by first | ((repeat (first | with_reducible exact List.mem_cons_self | with_reducible apply List.mem_cons_of_mem)); done) | (repeat (first | exact List.Mem.head _ | apply List.Mem.tail))); exact fun _ => rfl; exact fun _ => rfl; (intro A' c'; first | ((repeat (first | with_reducible exact Upd.here _ _ _ | with_reducible apply Upd.there)); done) | (repeat (first | exact Upd.here _ _ _ | apply Upd.there))); (simp; omega); decide; exact rfl); (first | exact rfl | exact ⟨rfl, rfl, rfl⟩); (rintro _ _ ⟨A', c', rfl, rfl⟩); (try refine ⟨SUB, ?_⟩)))
          · (refine At_ret Tryd.results6 rfl (fun w' hw => ?_))
            rw [callsR_err hok hl2 hlt hno2 (hst.1.trans (congrArg Prod.fst (evR_none hff ‹_› hz (by omega)))) (by simp)]
            exact ⟨none, 0, rfl, Own.nil _ _, hw.below0 rfl⟩
          · (refine At_ret Tryd.results6 rfl (fun w' hw => ?_))
            rw [callsR_err hok hl2 hlt hno2 (hst.1.trans (congrArg Prod.fst (evR_bad1 hff ‹_› (thing_at hzt hgt) (by rw [‹List.contains _ _ = false›]; rfl)))) (by simp)]
            exact ⟨none, 0, rfl, Own.nil _ _, hw.below0 rfl⟩
          · (refine At_ret Tryd.results6 rfl (fun w' hw => ?_))
            rw [callsR_err hok hl2 hlt hno2 (hst.1.trans (congrArg Prod.fst (evR_bad1 hff ‹_› (thing_at hzt hgt) (by rw [‹argB _ _ = false›]; simp)))) (by simp)]
            exact ⟨none, 0, rfl, Own.nil _ _, hw.below0 rfl⟩
          · have hev := evR_push hff ‹_› (thing_at hzt hgt) ‹_› ‹_› hz (by omega) (i := k)
            rw [hev] at hst
            refine At_rounds (k + 1, A', c') ⟨by show k + 1 ≤ _; omega, all_succ hno2 hst.1⟩ (by show l.length - (k + 1) < l.length - k; omega) ?_ ?_
            · simp only [hst.2]; (repeat (first | exact SubE.nil _ | refine SubE.cons rfl ?_))
            · simp only [hst.2]; exact SUBS
    · obtain rfl : k = l.length := by omega
      repeat' (first | ((with_reducible (first | apply TD_e2z | apply TD_e3z | apply TL_e | apply TD_e2 | apply TD_e3)); (first | exact ES.auto | ((with_reducible apply ES_storeOwn); exact rfl; exact rfl; (first | ((repeat (first | with_reducible exact Upd.here _ _ _ | with_reducible apply Upd.there)); done) | (repeat (first | exact Upd.here _ _ _ | apply Upd.there))); exact fun _ => rfl; (first | exact List.getElem?_set_self (by first | assumption | omega) | exact List.getElem?_eq_getElem (by first | assumption | omega | (simp only [List.length_set]; omega))); decide; exact Cl.enc_mk _ _ _ _ _ _ _; exact rfl)); (first | exact rfl | exact ⟨rfl, rfl, rfl⟩); (first | (rintro _ _ ⟨rfl, rfl⟩) | (rintro _ _ ⟨g, rfl, rfl⟩) | (rintro _ _ ⟨A', c', rfl, rfl⟩)); (try refine ⟨SUB, ?_⟩)) | (refine GO ?_) | (refine GOE ?_; (first | (rintro _ _ ⟨rfl, rfl⟩) | (rintro _ _ ⟨g, rfl, rfl⟩) | (rintro _ _ ⟨A', c', rfl, rfl⟩))) | ((refine GO2 ?_ ?_) <;> intro h <;> (try (repeat (first | with_reducible (replace h := of_decide_eq_true h) | with_reducible (replace h := of_decide_eq_false h) | with_reducible (replace h := bnt h) | with_reducible (replace h := bnf h) | with_reducible (replace h := Int.not_lt.mp h) | with_reducible (replace h := Int.not_le.mp h) | with_reducible (replace h := band_dec h) | with_reducible (replace h := band_decF h) | with_reducible (replace h := bor_dec h) | with_reducible (replace h := bor_decF h)))) <;> (try (exfalso; first | contradiction | omega))))
      (refine At_ret Tryd.results6 rfl (fun w' hw => ?_))
      rw [callsR_ok hok hl2 hno2]
      exact ⟨A1, c1, rfl, hw.ownOut rfl (by first | ((repeat (first | with_reducible exact List.mem_cons_self | with_reducible apply List.mem_cons_of_mem)); done) | (repeat (first | exact List.Mem.head _ | apply List.Mem.tail))), hw.below0 rfl⟩
end Go.Proofs.YthecmfhoaneejaaDoor

namespace Go.Proofs.YthecmfhoaneejaaDoor
open Go.RowKit

theorem callsCode_any (A B : Option Addr) (c d : Nat) (ts : List Int) (l : List Ev) (w : World) (hts : ts.length ≤ 9223372036854775807) (hl : l.length ≤ 9223372036854775807) (hT : RdInt w A ts) (hA : RdEv w B l) :
    Calls Tryd.prog 11 #[.slice A ts.length c, .slice B l.length d] w fun e w' => ∃ A' c', e = .returned (.tuple #[.slice A' (callsR ts l).1.length c', .int .i64 (callsR ts l).2.1, .int .i64 (callsR ts l).2.2]) ∧
      Own Cl.enc 7 58 w' w.heap.size (.slice A' (callsR ts l).1.length c') (callsR ts l).1 ∧ Below w.heap.size w w' := by
  rw [← calls_same]
  exact calls_any A B c d ts l w hts hl hT hA
/-- the calls that a reading gives -/
theorem callsR_inv {ts : List Int} {l : List Ev} (h : (callsR ts l).2.2 = 0) : typesOk ts = true ∧ l.length ≤ 200 ∧ (∀ j, j < l.length → erR ts l j = 0) ∧ (callsR ts l).1 = stR ts l l.length := by
  by_cases h1 : typesOk ts = true
  · by_cases h2 : 200 < l.length
    · rw [callsR_long h1 h2] at h; cases h
    · rcases Nat.lt_or_ge (failR ts l) l.length with hf | hf
      · exfalso
        have hk : ∃ k, k < l.length ∧ (∀ j, j < k → erR ts l j = 0) ∧ erR ts l k ≠ 0 := by
          unfold failR at hf
          cases hc : (List.range l.length).find? fun k => decide (erR ts l k ≠ 0) with
          | none => rw [hc] at hf; simp at hf
          | some k =>
            rw [List.find?_range_eq_some] at hc
            exact ⟨k, by simpa using hc.2.1, fun j hj => by simpa using hc.2.2 j hj, by simpa using hc.1⟩
        obtain ⟨k, a, b, c⟩ := hk
        rw [callsR_err h1 (by omega) a b rfl c] at h
        exact c h
      · have hall : ∀ j, j < l.length → erR ts l j = 0 := by
          intro j hj
          refine Decidable.byContradiction fun hn => ?_
          unfold failR at hf
          cases hc : (List.range l.length).find? fun k => decide (erR ts l k ≠ 0) with
          | none =>
            rw [List.find?_eq_none] at hc
            have := hc j (by simpa using hj)
            simp only [decide_eq_true_eq] at this
            exact this hn
          | some k =>
            rw [hc] at hf
            rw [List.find?_range_eq_some] at hc
            have h3 : k < l.length := by simpa using hc.2.1
            simp at hf
            omega
        refine ⟨h1, by omega, hall, ?_⟩
        rw [callsR_ok h1 (by omega) hall]
  · rw [callsR_types (by simpa using h1)] at h; cases h
end Go.Proofs.YthecmfhoaneejaaDoor

namespace Go.Proofs.YthecmfhoaneejaaDoor
open Go.RowKit Go.Lib

structure EvOk (x : Ev) : Prop where
  who : 0 ≤ x.who ∧ x.who < 8
  thing : 0 ≤ x.thing ∧ x.thing ≤ 4
  kind : 0 ≤ x.kind ∧ x.kind ≤ 10
  value : -1 ≤ x.value ∧ x.value ≤ 1000
theorem kinds_pos {t k : Int} (h : (kindsL t).contains k = true) : 1 ≤ k ∧ k ≤ 10 := by
  rw [← typeF_kinds] at h; exact typeF_pos h
theorem argB_le {k n : Int} (h : argB k n = true) : 0 ≤ n ∧ n ≤ 1000 := by
  unfold argB at h
  split at h
  · have := of_decide_eq_true h; omega
  · have := of_decide_eq_true h; omega
theorem ansB_le {k n : Int} (h : ansB k n = true) : -1 ≤ n ∧ n ≤ 1000 := by
  unfold ansB at h
  repeat' split at h
  all_goals (have := of_decide_eq_true h; omega)
theorem evR_ok {ts : List Int} {cs : List Cl} {i : Int} {x : Ev} (hts : ts.length ≤ 4) (h : (evR ts cs i x).1 = 0) : EvOk x := by
  unfold evR at h
  by_cases hf : formBad ts x = true
  · rw [if_pos hf] at h; cases h
  · rw [if_neg hf] at h
    simp only [formBad, Bool.or_eq_true, decide_eq_true_eq, not_or] at hf
    by_cases hk : x.kind = 0
    · rw [if_pos hk] at h
      split at h
      · cases h
      · split at h
        · rename_i hc
          exact ⟨by omega, by omega, by omega, ansB_le hc.2⟩
        · cases h
    · rw [if_neg hk] at h
      split at h
      · cases h
      · rename_i hb
        have hb' : ((kindsL (ts.getD x.thing.toNat 0)).contains x.kind && argB x.kind x.value) = true := by simpa using hb
        rw [Bool.and_eq_true] at hb'
        have h1 := kinds_pos hb'.1
        have h2 := argB_le hb'.2
        exact ⟨by omega, by omega, by omega, by omega⟩
theorem evs_ok {ts : List Int} {l : List Ev} (h : (callsR ts l).2.2 = 0) : (ts.length ≤ 4 ∧ ∀ t ∈ ts, 1 ≤ t ∧ t ≤ 5) ∧ l.length ≤ 200 ∧ ∀ x ∈ l, EvOk x := by
  obtain ⟨h1, h2, h3, _⟩ := callsR_inv h
  have ht : ts.length ≤ 4 ∧ ∀ t ∈ ts, 1 ≤ t ∧ t ≤ 5 := by
    unfold typesOk at h1
    simp only [Bool.and_eq_true, decide_eq_true_eq, Bool.not_eq_true', List.any_eq_false] at h1
    refine ⟨by omega, fun t ht => ?_⟩
    have := h1.2 t ht
    unfold badT at this
    simp only [Bool.or_eq_true, decide_eq_true_eq, not_or] at this
    omega
  refine ⟨ht, h2, fun x hx => ?_⟩
  obtain ⟨j, hj, rfl⟩ := List.mem_iff_getElem.1 hx
  have h4 := h3 j hj
  unfold erR at h4
  rw [show l.getD j default = l[j] by simp [hj]] at h4
  exact evR_ok ht.1 h4
/-! what is printed -/
def tyB (t : Int) : Bs := 32 :: typeW.getD t.toNat []
def evB (x : Ev) : Bs := lineEv x ++ [10]
def textB (ts : List Int) (l : List Ev) : Bs := thW ++ ts.flatMap tyB ++ [10] ++ l.flatMap evB
theorem joinL_flat (c : UInt8) : ∀ (w : Bs) (ws : List Bs), joinL c (w :: ws) = w ++ ws.flatMap (fun x => c :: x)
  | w, [] => by simp [joinL]
  | w, x :: ws => by
    rw [joinL_cons (by simp), joinL_flat c x ws]; simp
theorem firstL_flat (ts : List Int) : firstL ts = thW ++ ts.flatMap tyB := by
  unfold firstL
  rw [joinL_flat, List.flatMap_map]; rfl
theorem lineEv_flat (x : Ev) : lineEv x = itoa x.who ++ [32] ++ itoa x.thing ++ [32] ++ kindW.getD x.kind.toNat [] ++ (if bareB x.kind = true then [] else [32] ++ itoa x.value) := by
  unfold lineEv evWords
  split <;> simp [joinL]
theorem itoa_len8 {n : Int} (h : -1000000 ≤ n ∧ n ≤ 1000000) : (itoa n).length ≤ 8 := by
  have hl : ∀ u : Nat, u ≤ 1000000 → (decDigits u).length ≤ 7 := fun u hu => by rw [decDigits_length]; exact nDigits_le7 hu
  unfold itoa
  split
  · have := hl n.natAbs (by omega)
    simp only [List.length_cons]
    first | omega | (have := hl (-n).toNat (by omega); omega)
  · have := hl n.toNat (by omega)
    omega
theorem typeW_len {t : Nat} (h : t < 6) : (typeW.getD t []).length ≤ 6 := by revert t; decide
theorem kindW_len {t : Nat} (h : t < 11) : (kindW.getD t []).length ≤ 6 := by revert t; decide
theorem tyB_len {t : Int} (h : 1 ≤ t ∧ t ≤ 5) : (tyB t).length ≤ 7 := by
  have := typeW_len (t := t.toNat) (by omega)
  unfold tyB; simp only [List.length_cons]; omega
theorem evB_len {x : Ev} (h : EvOk x) : (evB x).length ≤ 40 := by
  obtain ⟨h1, h2, h3, h4⟩ := h
  have k1 := itoa_len8 (n := x.who) (by omega)
  have k2 := itoa_len8 (n := x.thing) (by omega)
  have k3 := itoa_len8 (n := x.value) (by omega)
  have k4 := kindW_len (t := x.kind.toNat) (by omega)
  unfold evB
  rw [lineEv_flat]
  split <;> simp only [List.length_append, List.length_cons, List.length_nil] <;> omega
theorem bflat_len {α : Type} {f : α → Bs} {m : Nat} : ∀ {l : List α}, (∀ x ∈ l, (f x).length ≤ m) → (l.flatMap f).length ≤ l.length * m
  | [], _ => by simp
  | x :: l, h => by
    have := bflat_len (f := f) (l := l) fun y hy => h y (List.mem_cons_of_mem _ hy)
    have := h x List.mem_cons_self
    rw [List.flatMap_cons, List.length_append, List.length_cons, Nat.succ_mul]; omega
theorem bflat_take {α : Type} (f : α → Bs) {l : List α} {k : Nat} (hk : k < l.length) : (l.take (k + 1)).flatMap f = (l.take k).flatMap f ++ f l[k] := by
  rw [List.take_succ_eq_append_getElem hk, List.flatMap_append]; simp
end Go.Proofs.YthecmfhoaneejaaDoor

namespace Go.Proofs.YthecmfhoaneejaaDoor
open Go.RowKit

set_option maxHeartbeats 2000000 in
theorem equal_any (A B : Option Addr) (c d : Nat) (l m : List Int) (w : World) (hl : l.length ≤ 9223372036854775807) (hm : m.length ≤ 9223372036854775807) (hA : RdInt w A l) (hB : RdInt w B m) :
    Calls Tryd.prog 9 #[.slice A l.length c, .slice B m.length d] w fun e w' => e = .returned (.bool (decide (l = m))) ∧ Below w.heap.size w w' := by
  by_cases hlen : l.length = m.length
  · have hne : ((l.length : Int) != (m.length : Int)) = false := by simp; omega
    have Hlen := Lib.hid hlen
    have hle : l.length ≤ m.length := by omega
    clear hlen
    go_enter Tryd.func9, Tryd.ntmps9
    go_wp2
    go_loopw [13] (fun i wr => ∃ k : Nat, k ≤ l.length ∧ i = .int .i64 k ∧ Hid (∀ j, j < k → l[j]? = m[j]?) ∧ Below w.heap.size w wr) (fun i _ => l.length - (intOf i).toNat)
    case atStart => exact ⟨0, by omega, rfl, Lib.hid (by omega), Below.refl _ _⟩
    case round =>
      obtain ⟨k, hk, rfl, hall, hbel⟩ := hrel
      by_cases hlt : k < l.length
      · obtain ⟨b, o, rfl, hb0, hbs, c0⟩ := hA.at_ hbel k hlt
        obtain ⟨b2, o2, rfl, hb02, hbs2, d0⟩ := hB.at_ hbel k (by omega)
        have hk1 : (k : Int) < (l.length : Int) := by omega
        have hk2 : (k : Int) < (m.length : Int) := by omega
        by_cases he : l[k] = m[k]
        · have hb : (l[k] != m[k]) = false := by simp [he]
          have He := Lib.hid he
          clear he
          go_wp2
          go_quiet (fail)
          go_wp2
          go_roundw
          case rel => exact ⟨k + 1, by omega, by go_num, Lib.hid (fun j hj => by
            by_cases e : j = k
            · subst e; rw [List.getElem?_eq_getElem hlt, List.getElem?_eq_getElem (by omega), He.out]
            · exact hall.out j (by omega)), by (repeat (first | assumption | exact Below.refl _ _ | refine bel_alloc ?_ _ | refine Below.drew ?_ | refine below_drewN' ?_ _ | (refine bel_set ?_ (by first | (simp; done) | (simp; omega)) _) | (refine bel_row ?_ (by first | (simp; done) | (simp; omega)) _)))⟩
          case measure => simp [intOf]; omega
        · have hb : (l[k] != m[k]) = true := by simp [he]
          have He := Lib.hid he
          clear he
          go_wp2
          go_quiet (fail)
          go_wp2
          go_ret
          exact ⟨ret_bool (by
            symm
            simp only [decide_eq_false_iff_not]
            intro e
            subst e
            exact He.out rfl), by (repeat (first | assumption | exact Below.refl _ _ | refine bel_alloc ?_ _ | refine Below.drew ?_ | refine below_drewN' ?_ _ | (refine bel_set ?_ (by first | (simp; done) | (simp; omega)) _) | (refine bel_row ?_ (by first | (simp; done) | (simp; omega)) _)))⟩
      · obtain rfl : k = l.length := by omega
        go_wp2
        go_ret
        exact ⟨ret_bool (by
          symm
          simp only [decide_eq_true_eq]
          apply List.ext_getElem?
          intro j
          by_cases hj : j < l.length
          · exact hall.out j hj
          · rw [List.getElem?_eq_none (by omega), List.getElem?_eq_none (by have := Hlen.out; omega)]), hbel⟩
  · have hne : ((l.length : Int) != (m.length : Int)) = true := by simp; omega
    have H := Lib.hid (show decide (l = m) = false by simp; intro e; exact hlen (by rw [e]))
    clear hlen
    go_enter Tryd.func9, Tryd.ntmps9
    go_wp2
    go_ret
    exact ⟨ret_bool H.out.symm, Below.refl _ _⟩
end Go.Proofs.YthecmfhoaneejaaDoor

namespace Go.Proofs.YthecmfhoaneejaaDoor
open Go.RowKit

/-! lists of events compared -/
def evEqB (x y : Ev) : Bool := decide (x.who = y.who) && (decide (x.thing = y.thing) && (decide (x.kind = y.kind) && decide (x.value = y.value)))
theorem evEqB_eq (x y : Ev) : evEqB x y = true ↔ x = y := by
  cases x; cases y
  simp [evEqB]
set_option maxRecDepth 40000 in
theorem run_neq_ev (x y : Ev) (w : World) : (binOp .neq 36 (.agg (Ev.enc x).toArray) (.agg (Ev.enc y).toArray)).run Tryd.prog w = .ok (.bool (!evEqB x y)) w := by
  obtain ⟨x1, x2, x3, x4⟩ := x
  obtain ⟨y1, y2, y3, y4⟩ := y
  rw [evCells, evCells, run_neq_struct]
  go_simp
  unfold evEqB
  repeat' split
  all_goals simp_all
theorem run_eqGuard_ev (op : BinOp) (x y : Operand) (xs ys : Array Value) (w : World) : (eqGuard op 36 x y (.agg xs) (.agg ys)).run Tryd.prog w = .ok () w :=
  run_eqGuard_agg w op _ x y xs ys Tryd.eqGuardType36
section
variable {C : Ctx} {E : Slots} {S : List Ent} {ty ty3 : Nat} {x y : Operand} (u v : Ev)
theorem QS_neqEv (hx : evo E x = some (.agg (Ev.enc u).toArray)) (hy : evo E y = some (.agg (Ev.enc v).toArray)) : QS Tryd.prog C E S (.binOp .neq 36 x y ty3) ty (.bool (!evEqB u v)) :=
  QS.of (fun a w ha _ => by
    have h2 := run_neq_ev u v w
    have hg := run_eqGuard_ev .neq x y (Ev.enc u).toArray (Ev.enc v).toArray w
    simp only [execOp, ha.evo hx, ha.evo hy, Sem.run_bind, hg, Result.andThen_ok, h2]
    simp)
end
set_option maxRecDepth 100000 in
set_option maxHeartbeats 2000000 in
theorem equalEv_any (A B : Option Addr) (c d : Nat) (l m : List Ev) (w : World) (hl : l.length ≤ 9223372036854775807) (hm : m.length ≤ 9223372036854775807) (hA : RdEv w A l) (hB : RdEv w B m) :
    Calls Tryd.prog 10 #[.slice A l.length c, .slice B m.length d] w fun e w' => e = .returned (.bool (decide (l = m))) ∧ Below w.heap.size w w' := by
  refine calls_T (S := []) [] Tryd.func10 rfl Tryd.ntmps10 (by simp) (Mem.nil _) ?_
  repeat' (first | ((first | with_reducible (first | apply TL_q | apply TD_q0 | apply TD_q1 | apply TD_q2 | apply TD_q3) | ((with_reducible (first | apply TD_q0y | apply TD_q1y)); exact rfl; exact rfl; (with_reducible exact rfl))); (first | exact QS.auto | ((with_reducible apply QS_neqEv); exact rfl; exact rfl)); exact rfl) | (refine GO ?_) | (refine GOE ?_; (first | (rintro _ _ ⟨rfl, rfl⟩) | (rintro _ _ ⟨g, rfl, rfl⟩) | (rintro _ _ ⟨A', c', rfl, rfl⟩))) | ((refine GO2 ?_ ?_) <;> intro h <;> (try (repeat (first | with_reducible (replace h := of_decide_eq_true h) | with_reducible (replace h := of_decide_eq_false h) | with_reducible (replace h := bnt h) | with_reducible (replace h := bnf h) | with_reducible (replace h := Int.not_lt.mp h) | with_reducible (replace h := Int.not_le.mp h) | with_reducible (replace h := band_dec h) | with_reducible (replace h := band_decF h) | with_reducible (replace h := bor_dec h) | with_reducible (replace h := bor_decF h)))) <;> (try (exfalso; first | contradiction | omega))) | fail)
  · (refine At_ret Tryd.results10 rfl (fun w' hw => ?_))
    rw [decide_eq_false (fun e => by subst e; omega)]
    exact ⟨rfl, hw.below0 rfl⟩
  have hlen : l.length = m.length := by omega
  refine T_loop (X := Nat) (fun k => [(13, .int .i64 (k : Nat)), (12, .int .i64 l.length), (1, .slice B m.length d), (0, .slice A l.length c)])
    (fun _ => []) (fun k => k ≤ l.length ∧ Hid (∀ j, j < k → l[j]? = m[j]?)) (fun k => l.length - k) 0 ⟨by omega, Lib.hid (by omega)⟩ (by (repeat (first | exact SubE.nil _ | refine SubE.cons rfl ?_))) (by exact SUBS) ?_
  rintro k ⟨hk, hall⟩
  by_cases hlt : k < l.length
  · obtain ⟨b, o, rfl, hb0⟩ := RdE.open hA (by omega)
    obtain ⟨b2, o2, rfl, hb2⟩ := RdE.open hB (by omega)
    have hlt2 : k < m.length := by omega
    have hev := evEqB_eq l[k] m[k]
    repeat' (first | ((first | with_reducible (first | apply TL_q | apply TD_q0 | apply TD_q1 | apply TD_q2 | apply TD_q3) | ((with_reducible (first | apply TD_q0y | apply TD_q1y)); exact rfl; exact rfl; (with_reducible exact rfl))); (first | exact QS.auto | ((with_reducible apply QS_neqEv); exact rfl; exact rfl)); exact rfl) | (refine GG ?_) | (refine GE ?_; (first | (rintro _ _ ⟨rfl, rfl⟩) | (rintro _ _ ⟨g, rfl, rfl⟩) | (rintro _ _ ⟨A', c', rfl, rfl⟩)); (try refine ⟨SUB, ?_⟩)) | ((refine GO2 ?_ ?_) <;> intro h <;> (try (repeat (first | with_reducible (replace h := of_decide_eq_true h) | with_reducible (replace h := of_decide_eq_false h) | with_reducible (replace h := bnt h) | with_reducible (replace h := bnf h) | with_reducible (replace h := Int.not_lt.mp h) | with_reducible (replace h := Int.not_le.mp h) | with_reducible (replace h := band_dec h) | with_reducible (replace h := band_decF h) | with_reducible (replace h := bor_dec h) | with_reducible (replace h := bor_decF h)))) <;> (try (exfalso; first | contradiction | omega))) | (refine GOF ?_ ?_) | ((with_reducible apply T_draw (id := 6) 1000 (OT.seq [(0, 0), (0, 1), (0, 2), (0, 4), (0, 5), (0, 6), (1, 3), (1, 7), (0, 8)] .nil)); kernel_rfl; exact rfl; kernel_rfl; (repeat (first | with_reducible exact Blind.body | with_reducible apply Blind.seq | with_reducible apply Blind.block))) | fail)
    · (refine At_ret Tryd.results10 rfl (fun w' hw => ?_))
      have hne : ¬ l[k] = m[k] := fun e => by
        have h1 : evEqB l[k] m[k] = false := by assumption
        rw [hev.2 e] at h1; cases h1
      rw [decide_eq_false (fun e => hne (by subst e; rfl))]
      exact ⟨rfl, hw.below0 rfl⟩
    · have he : l[k] = m[k] := hev.1 (by assumption)
      (refine At_rounds (k + 1) ?_ ?_ ?_ ?_; (exact ⟨by show k + 1 ≤ l.length; omega, Lib.hid (fun j hj => by
        by_cases e : j = k
        · subst e; rw [List.getElem?_eq_getElem hlt, List.getElem?_eq_getElem hlt2, he]
        · exact hall.out j (by omega))⟩); (omega); ((repeat (first | exact SubE.nil _ | refine SubE.cons rfl ?_))); (exact SUBS))
  · obtain rfl : k = l.length := by omega
    repeat' (first | ((first | with_reducible (first | apply TL_q | apply TD_q0 | apply TD_q1 | apply TD_q2 | apply TD_q3) | ((with_reducible (first | apply TD_q0y | apply TD_q1y)); exact rfl; exact rfl; (with_reducible exact rfl))); (first | exact QS.auto | ((with_reducible apply QS_neqEv); exact rfl; exact rfl)); exact rfl) | (refine GO ?_) | (refine GOE ?_; (first | (rintro _ _ ⟨rfl, rfl⟩) | (rintro _ _ ⟨g, rfl, rfl⟩) | (rintro _ _ ⟨A', c', rfl, rfl⟩))) | ((refine GO2 ?_ ?_) <;> intro h <;> (try (repeat (first | with_reducible (replace h := of_decide_eq_true h) | with_reducible (replace h := of_decide_eq_false h) | with_reducible (replace h := bnt h) | with_reducible (replace h := bnf h) | with_reducible (replace h := Int.not_lt.mp h) | with_reducible (replace h := Int.not_le.mp h) | with_reducible (replace h := band_dec h) | with_reducible (replace h := band_decF h) | with_reducible (replace h := bor_dec h) | with_reducible (replace h := bor_decF h)))) <;> (try (exfalso; first | contradiction | omega))) | fail)
    (refine At_ret Tryd.results10 rfl (fun w' hw => ?_))
    have he : l = m := by
      apply List.ext_getElem?
      intro j
      by_cases hj : j < l.length
      · exact hall.out j hj
      · rw [List.getElem?_eq_none (by omega), List.getElem?_eq_none (by omega)]
    rw [decide_eq_true he]
    exact ⟨rfl, hw.below0 rfl⟩
end Go.Proofs.YthecmfhoaneejaaDoor
