/- Lemmas for the walks (Hist8, Cau1, Ms). No condition. -/
import Derived.Test.YtiimjppceobkfaaG15
import Derived.Test.YtiimjppceobkfaaG08
import Derived.Test.YtiimjppceobkfaaG05
import Derived.Laws.BytesString
set_option linter.unusedSimpArgs false
set_option linter.unusedVariables false
set_option linter.unusedSectionVars false
set_option linter.unnecessarySimpa false
namespace Go.Proofs.Ytiimjppceobkfaa
open Go.RowKit

theorem between_B (a b c : Int) (w : World) : Calls Try.prog 33 #[.int .i64 a, .int .i64 b, .int .i64 c] w fun e w' => e = .returned (.bool (decide (b ≤ a) && decide (a ≤ c))) ∧ Below w.heap.size w w' :=
  Calls.same_below (between_any a b c w)
theorem badT_between (t : Int) : (decide (1 ≤ t) && decide (t ≤ 5)) = !badT t := by
  rw [Bool.eq_iff_iff]
  simp [badT]
theorem Cl.enc_mk (a b c d e f g : Int) : Cl.enc ⟨a, b, c, d, e, f, g⟩ = [.int .i64 a, .int .i64 b, .int .i64 c, .int .i64 d, .int .i64 e, .int .i64 f, .int .i64 g] := rfl
set_option maxRecDepth 100000 in
theorem kinds_T (t : Int) (w : World) : Calls Try.prog 106 #[.int .i64 t] w fun e w' => ∃ A c, e = .returned (.slice A (kindsL t).length c) ∧ Own intEnc 1 3 w' w.heap.size (.slice A (kindsL t).length c) (kindsL t) ∧ Below w.heap.size w w' := by
  refine calls_T (S := []) [] Try.func106 rfl Try.ntmps106 (by simp) (Mem.nil _) ?_
  repeat' (first | ((with_reducible (first | apply TD_e2z | apply TD_e3z | apply TL_e | apply TD_e2 | apply TD_e3)); (first | exact ES.auto | ((with_reducible apply ES_storeOwn); exact rfl; exact rfl; (first | ((repeat (first | with_reducible exact Upd.here _ _ _ | with_reducible apply Upd.there)); done) | (repeat (first | exact Upd.here _ _ _ | apply Upd.there))); exact fun _ => rfl; (first | exact List.getElem?_set_self (by first | assumption | omega) | exact List.getElem?_eq_getElem (by first | assumption | omega | (simp only [List.length_set]; omega))); decide; exact Cl.enc_mk _ _ _ _ _ _ _; exact rfl)); (first | exact rfl | exact ⟨rfl, rfl, rfl⟩); (first | (rintro _ _ ⟨rfl, rfl⟩) | (rintro _ _ ⟨g, rfl, rfl⟩) | (rintro _ _ ⟨A', c', rfl, rfl⟩)); (try refine ⟨SUB, ?_⟩)) | (refine GO ?_) | (refine GOE ?_; (first | (rintro _ _ ⟨rfl, rfl⟩) | (rintro _ _ ⟨g, rfl, rfl⟩) | (rintro _ _ ⟨A', c', rfl, rfl⟩))) | ((refine GO2 ?_ ?_) <;> intro h <;> (try (repeat (first | with_reducible (replace h := of_decide_eq_true h) | with_reducible (replace h := of_decide_eq_false h) | with_reducible (replace h := bnt h) | with_reducible (replace h := bnf h) | with_reducible (replace h := Int.not_lt.mp h) | with_reducible (replace h := Int.not_le.mp h) | with_reducible (replace h := band_dec h) | with_reducible (replace h := band_decF h) | with_reducible (replace h := bor_dec h) | with_reducible (replace h := bor_decF h)))) <;> (try (exfalso; first | contradiction | omega))))
  all_goals (refine At_ret Try.results106 rfl (fun w' hw => ?_))
  all_goals try subst_vars
  all_goals first
    | exact ⟨_, _, rfl, hw.blkOut (enc := intEnc) [1, 2] rfl (by first | ((repeat (first | with_reducible exact List.mem_cons_self | with_reducible apply List.mem_cons_of_mem)); done) | (repeat (first | exact List.Mem.head _ | apply List.Mem.tail))) rfl (fun _ => rfl) (by decide), hw.below0 rfl⟩
    | exact ⟨_, _, rfl, hw.blkOut (enc := intEnc) [3, 4] rfl (by first | ((repeat (first | with_reducible exact List.mem_cons_self | with_reducible apply List.mem_cons_of_mem)); done) | (repeat (first | exact List.Mem.head _ | apply List.Mem.tail))) rfl (fun _ => rfl) (by decide), hw.below0 rfl⟩
    | exact ⟨_, _, rfl, hw.blkOut (enc := intEnc) [5, 6] rfl (by first | ((repeat (first | with_reducible exact List.mem_cons_self | with_reducible apply List.mem_cons_of_mem)); done) | (repeat (first | exact List.Mem.head _ | apply List.Mem.tail))) rfl (fun _ => rfl) (by decide), hw.below0 rfl⟩
    | exact ⟨_, _, rfl, hw.blkOut (enc := intEnc) [7, 8, 9] rfl (by first | ((repeat (first | with_reducible exact List.mem_cons_self | with_reducible apply List.mem_cons_of_mem)); done) | (repeat (first | exact List.Mem.head _ | apply List.Mem.tail))) rfl (fun _ => rfl) (by decide), hw.below0 rfl⟩
    | exact ⟨_, _, rfl, hw.blkOut (enc := intEnc) [10] rfl (by first | ((repeat (first | with_reducible exact List.mem_cons_self | with_reducible apply List.mem_cons_of_mem)); done) | (repeat (first | exact List.Mem.head _ | apply List.Mem.tail))) rfl (fun _ => rfl) (by decide), hw.below0 rfl⟩
    | (have e : kindsL t = [] := by simp [kindsL, *]
       rw [e]; exact ⟨none, 0, rfl, Own.nil _ _, hw.below0 rfl⟩)

theorem kindsL_len (t : Int) : (kindsL t).length ≤ 9223372036854775807 := by
  unfold kindsL
  repeat' split
  all_goals decide
section
variable {ts : List Int} {cs : List Cl} {i z tt : Int} {x : Ev}
theorem evR_none (hf : formBad ts x = false) (hk : x.kind = 0) (hz : openTo cs x.who cs.length = z) (h : z < 0) : evR ts cs i x = (4, cs) := by
  unfold evR; rw [if_neg (by rw [hf]; decide), if_pos hk, hz, if_pos h]
theorem evR_bad0 {c : Cl} (hf : formBad ts x = false) (hk : x.kind = 0) (hz : openTo cs x.who cs.length = z) (h : 0 ≤ z) (hc : cs.getD z.toNat default = c) (hn : ¬ (c.thing = x.thing ∧ ansB c.kind x.value = true)) : evR ts cs i x = (3, cs) := by
  unfold evR; rw [if_neg (by rw [hf]; decide), if_pos hk, hz, if_neg (by omega), hc, if_neg hn]
theorem evR_end {c : Cl} (hf : formBad ts x = false) (hk : x.kind = 0) (hz : openTo cs x.who cs.length = z) (h : 0 ≤ z) (hc : cs.getD z.toNat default = c) (hn : c.thing = x.thing ∧ ansB c.kind x.value = true) : evR ts cs i x = (0, cs.set z.toNat { c with res := x.value, to := i }) := by
  unfold evR; rw [if_neg (by rw [hf]; decide), if_pos hk, hz, if_neg (by omega), hc, if_pos hn]
theorem evR_bad1 (hf : formBad ts x = false) (hk : ¬ x.kind = 0) (ht : ts.getD x.thing.toNat 0 = tt) (h : ((kindsL tt).contains x.kind && argB x.kind x.value) = false) : evR ts cs i x = (3, cs) := by
  unfold evR; rw [if_neg (by rw [hf]; decide), if_neg hk, ht, if_pos h]
theorem evR_twice (hf : formBad ts x = false) (hk : ¬ x.kind = 0) (ht : ts.getD x.thing.toNat 0 = tt) (h1 : (kindsL tt).contains x.kind = true) (h2 : argB x.kind x.value = true) (hz : openTo cs x.who cs.length = z) (h : 0 ≤ z) : evR ts cs i x = (5, cs) := by
  unfold evR; rw [if_neg (by rw [hf]; decide), if_neg hk, ht, if_neg (by simp only [h1, h2]; decide), hz, if_pos h]
theorem evR_push (hf : formBad ts x = false) (hk : ¬ x.kind = 0) (ht : ts.getD x.thing.toNat 0 = tt) (h1 : (kindsL tt).contains x.kind = true) (h2 : argB x.kind x.value = true) (hz : openTo cs x.who cs.length = z) (h : ¬ 0 ≤ z) : evR ts cs i x = (0, cs ++ [⟨x.who, x.thing, x.kind, x.value, 0, i, -1⟩]) := by
  unfold evR; rw [if_neg (by rw [hf]; decide), if_neg hk, ht, if_neg (by simp only [h1, h2]; decide), hz, if_neg h]
theorem thing_at {t : Int} (h : t.toNat < ts.length) (hg : ts.getD t.toNat 0 = ts[t.toNat]) : ts.getD t.toNat 0 = ts[t.toNat] := hg
end
theorem callsR_types {ts : List Int} {l : List Ev} (h : typesOk ts = false) : callsR ts l = ([], 0, 1) := by simp [callsR, typesE, h]
theorem callsR_long {ts : List Int} {l : List Ev} (h : typesOk ts = true) (hl : 200 < l.length) : callsR ts l = ([], 0, 2) := by simp [callsR, typesE, h, hl]
theorem callsR_err {ts : List Int} {l : List Ev} (h : typesOk ts = true) (hl : l.length ≤ 200) {k : Nat} (hk : k < l.length) (hno : ∀ j, j < k → erR ts l j = 0) {z : Int} (he : erR ts l k = z) (hz : z ≠ 0) : callsR ts l = ([], (k : Int), z) := by
  have hf := failR_at hk hno (by rw [he]; exact hz)
  have ht : typesE ts = 0 := by simp [typesE, h]
  simp only [callsR, ht, hf]
  rw [if_neg (by simp), if_neg (by omega), if_pos hk, he]
theorem callsR_ok {ts : List Int} {l : List Ev} (h : typesOk ts = true) (hl : l.length ≤ 200) (hno : ∀ j, j < l.length → erR ts l j = 0) : callsR ts l = (stR ts l l.length, 0, 0) := by
  have hf := failR_none hno
  have ht : typesE ts = 0 := by simp [typesE, h]
  simp only [callsR, ht, hf]
  rw [if_neg (by simp), if_neg (by omega), if_neg (by omega)]
theorem all_succ {p : Nat → Prop} {k : Nat} (h : ∀ j, j < k → p j) (hk : p k) : ∀ j, j < k + 1 → p j := fun j hj => by
  by_cases e : j = k
  · rw [e]; exact hk
  · exact h j (by omega)
theorem typesOk_no {ts : List Int} {k : Nat} (hk : k < ts.length) (h : ts[k] < 1 ∨ 5 < ts[k]) : typesOk ts = false := by
  have : ts.any badT = true := List.any_eq_true.2 ⟨ts[k], List.getElem_mem hk, by simp [badT, h]⟩
  simp [typesOk, this]
set_option maxRecDepth 100000 in
set_option maxHeartbeats 2000000 in
theorem callsOf_any (T A : Option Addr) (ct c : Nat) (ts : List Int) (l : List Ev) (w : World) (hts : ts.length ≤ 9223372036854775807) (hl : l.length ≤ 9223372036854775807) (hT : RdInt w T ts) (hA : RdEv w A l) :
    Calls Try.prog 41 #[.slice T ts.length ct, .slice A l.length c] w fun e w' => ∃ A' c', e = .returned (.tuple #[.slice A' (callsR ts l).1.length c', .int .i64 (callsR ts l).2.1, .int .i64 (callsR ts l).2.2]) ∧
      Own Cl.enc 7 76 w' w.heap.size (.slice A' (callsR ts l).1.length c') (callsR ts l).1 ∧ Below w.heap.size w w' := by
  refine calls_T (S := []) [] Try.func41 rfl Try.ntmps41 (by simp) (Mem.nil _) ?_
  repeat' (first | ((with_reducible (first | apply TD_e2z | apply TD_e3z | apply TL_e | apply TD_e2 | apply TD_e3)); (first | exact ES.auto | ((with_reducible apply ES_storeOwn); exact rfl; exact rfl; (first | ((repeat (first | with_reducible exact Upd.here _ _ _ | with_reducible apply Upd.there)); done) | (repeat (first | exact Upd.here _ _ _ | apply Upd.there))); exact fun _ => rfl; (first | exact List.getElem?_set_self (by first | assumption | omega) | exact List.getElem?_eq_getElem (by first | assumption | omega | (simp only [List.length_set]; omega))); decide; exact Cl.enc_mk _ _ _ _ _ _ _; exact rfl)); (first | exact rfl | exact ⟨rfl, rfl, rfl⟩); (first | (rintro _ _ ⟨rfl, rfl⟩) | (rintro _ _ ⟨g, rfl, rfl⟩) | (rintro _ _ ⟨A', c', rfl, rfl⟩)); (try refine ⟨SUB, ?_⟩)) | (refine GO ?_) | (refine GOE ?_; (first | (rintro _ _ ⟨rfl, rfl⟩) | (rintro _ _ ⟨g, rfl, rfl⟩) | (rintro _ _ ⟨A', c', rfl, rfl⟩))) | ((refine GO2 ?_ ?_) <;> intro h <;> (try (repeat (first | with_reducible (replace h := of_decide_eq_true h) | with_reducible (replace h := of_decide_eq_false h) | with_reducible (replace h := bnt h) | with_reducible (replace h := bnf h) | with_reducible (replace h := Int.not_lt.mp h) | with_reducible (replace h := Int.not_le.mp h) | with_reducible (replace h := band_dec h) | with_reducible (replace h := band_decF h) | with_reducible (replace h := bor_dec h) | with_reducible (replace h := bor_decF h)))) <;> (try (exfalso; first | contradiction | omega))))
  refine T_loop (X := Nat) (fun k => [(17, .int .i64 (k : Nat)), (16, .int .i64 ts.length), (15, .slice T ts.length ct), (0, .slice T ts.length ct), (1, .slice A l.length c)])
    (fun _ => []) (fun k => k ≤ ts.length ∧ (ts.take k).any badT = false) (fun k => ts.length - k) 0 ⟨by omega, by simp⟩ (by (repeat (first | exact SubE.nil _ | refine SubE.cons rfl ?_))) (by exact SUBS) ?_
  rintro k ⟨hk, hno⟩
  by_cases hlt : k < ts.length
  · obtain ⟨b, o, rfl, hb0⟩ := RdE.open hT (by omega)
    repeat' (first | ((with_reducible (first | apply TD_e2z | apply TD_e3z | apply TL_e | apply TD_e2 | apply TD_e3)); (first | exact ES.auto | ((with_reducible apply ES_storeOwn); exact rfl; exact rfl; (first | ((repeat (first | with_reducible exact Upd.here _ _ _ | with_reducible apply Upd.there)); done) | (repeat (first | exact Upd.here _ _ _ | apply Upd.there))); exact fun _ => rfl; (first | exact List.getElem?_set_self (by first | assumption | omega) | exact List.getElem?_eq_getElem (by first | assumption | omega | (simp only [List.length_set]; omega))); decide; exact Cl.enc_mk _ _ _ _ _ _ _; exact rfl)); (first | exact rfl | exact ⟨rfl, rfl, rfl⟩); (first | (rintro _ _ ⟨rfl, rfl⟩) | (rintro _ _ ⟨g, rfl, rfl⟩) | (rintro _ _ ⟨A', c', rfl, rfl⟩)); (try refine ⟨SUB, ?_⟩)) | (refine GO ?_) | (refine GOE ?_; (first | (rintro _ _ ⟨rfl, rfl⟩) | (rintro _ _ ⟨g, rfl, rfl⟩) | (rintro _ _ ⟨A', c', rfl, rfl⟩))) | ((refine GO2 ?_ ?_) <;> intro h <;> (try (repeat (first | with_reducible (replace h := of_decide_eq_true h) | with_reducible (replace h := of_decide_eq_false h) | with_reducible (replace h := bnt h) | with_reducible (replace h := bnf h) | with_reducible (replace h := Int.not_lt.mp h) | with_reducible (replace h := Int.not_le.mp h) | with_reducible (replace h := band_dec h) | with_reducible (replace h := band_decF h) | with_reducible (replace h := bor_dec h) | with_reducible (replace h := bor_decF h)))) <;> (try (exfalso; first | contradiction | omega))) | ((with_reducible (first | apply TD_e2z | apply TD_e3z | apply TL_e | apply TD_e2 | apply TD_e3)); ((with_reducible apply ES_callV (f := 33)); exact rfl; (intro w hw; exact between_B _ _ _ _); exact rfl); (first | exact rfl | exact ⟨rfl, rfl, rfl⟩); (rintro _ _ ⟨rfl, rfl⟩); (try refine ⟨SUB, ?_⟩)))
    · (refine At_ret Try.results41 rfl (fun w' hw => ?_))
      rw [callsR_types (typesOk_no hlt (by omega))]
      exact ⟨none, 0, rfl, Own.nil _ _, hw.below0 rfl⟩
    · (refine At_rounds (k + 1) ?_ ?_ ?_ ?_; (exact ⟨by omega, any_take_succ' hlt hno (by simp [badT]; omega)⟩); (omega); ((repeat (first | exact SubE.nil _ | refine SubE.cons rfl ?_))); (exact SUBS))
  · obtain rfl : k = ts.length := by omega
    repeat' (first | ((with_reducible (first | apply TD_e2z | apply TD_e3z | apply TL_e | apply TD_e2 | apply TD_e3)); (first | exact ES.auto | ((with_reducible apply ES_storeOwn); exact rfl; exact rfl; (first | ((repeat (first | with_reducible exact Upd.here _ _ _ | with_reducible apply Upd.there)); done) | (repeat (first | exact Upd.here _ _ _ | apply Upd.there))); exact fun _ => rfl; (first | exact List.getElem?_set_self (by first | assumption | omega) | exact List.getElem?_eq_getElem (by first | assumption | omega | (simp only [List.length_set]; omega))); decide; exact Cl.enc_mk _ _ _ _ _ _ _; exact rfl)); (first | exact rfl | exact ⟨rfl, rfl, rfl⟩); (first | (rintro _ _ ⟨rfl, rfl⟩) | (rintro _ _ ⟨g, rfl, rfl⟩) | (rintro _ _ ⟨A', c', rfl, rfl⟩)); (try refine ⟨SUB, ?_⟩)) | (refine GO ?_) | (refine GOE ?_; (first | (rintro _ _ ⟨rfl, rfl⟩) | (rintro _ _ ⟨g, rfl, rfl⟩) | (rintro _ _ ⟨A', c', rfl, rfl⟩))) | ((refine GO2 ?_ ?_) <;> intro h <;> (try (repeat (first | with_reducible (replace h := of_decide_eq_true h) | with_reducible (replace h := of_decide_eq_false h) | with_reducible (replace h := bnt h) | with_reducible (replace h := bnf h) | with_reducible (replace h := Int.not_lt.mp h) | with_reducible (replace h := Int.not_le.mp h) | with_reducible (replace h := band_dec h) | with_reducible (replace h := band_decF h) | with_reducible (replace h := bor_dec h) | with_reducible (replace h := bor_decF h)))) <;> (try (exfalso; first | contradiction | omega))) | ((with_reducible (first | apply TD_e2z | apply TD_e3z | apply TL_e | apply TD_e2 | apply TD_e3)); ((with_reducible apply ES_callV (f := 33)); exact rfl; (intro w hw; exact between_B _ _ _ _); exact rfl); (first | exact rfl | exact ⟨rfl, rfl, rfl⟩); (rintro _ _ ⟨rfl, rfl⟩); (try refine ⟨SUB, ?_⟩)))
    · (refine At_ret Try.results41 rfl (fun w' hw => ?_))
      rw [callsR_types (by simp [typesOk]; omega)]
      exact ⟨none, 0, rfl, Own.nil _ _, hw.below0 rfl⟩
    · (refine At_ret Try.results41 rfl (fun w' hw => ?_))
      rw [callsR_long (by rw [List.take_length] at hno; simp [typesOk, hno]; omega) (by omega)]
      exact ⟨none, 0, rfl, Own.nil _ _, hw.below0 rfl⟩
    have hok : typesOk ts = true := by rw [List.take_length] at hno; simp [typesOk, hno]; omega
    have hl2 : l.length ≤ 200 := by omega
    refine T_loop (X := Nat × Option Addr × Nat)
      (fun x => [(34, .int .i64 (x.1 : Nat)), (33, .int .i64 l.length), (32, .slice A l.length c), (9, .slice x.2.1 (stR ts l x.1).length x.2.2), (0, .slice T ts.length ct)])
      (fun x => [entOwn Cl.enc 7 76 x.2.1 x.2.2 (stR ts l x.1)]) (fun x => x.1 ≤ l.length ∧ ∀ j, j < x.1 → erR ts l j = 0) (fun x => l.length - x.1) (0, none, 0)
      ⟨by simp, by simp⟩ (by (repeat (first | exact SubE.nil _ | refine SubE.cons rfl ?_))) (fun w hw => (hw.nilOwn Cl.enc 7 76).sub (by first | ((repeat (first | with_reducible exact List.nil_sublist _ | with_reducible exact List.Sublist.refl _ | with_reducible apply List.Sublist.cons_cons | with_reducible apply List.Sublist.cons)); done) | (repeat (first | exact List.nil_sublist _ | exact List.Sublist.refl _ | apply List.Sublist.cons_cons | apply List.Sublist.cons)))) ?_
    rintro ⟨k, A1, c1⟩ ⟨hk, hno2⟩
    dsimp only at hk hno2 ⊢
    have hlen2 : (stR ts l k).length ≤ k := by rw [← (run_same ts l k).1]; exact stP_len ts l k
    by_cases hlt : k < l.length
    · obtain ⟨b, o, rfl, hb0⟩ := RdE.open hA (by omega)
      have hg : l.getD k default = l[k] := by simp [hlt]
      have hst : erR ts l k = (evR ts (stR ts l k) k l[k]).1 ∧ stR ts l (k + 1) = (evR ts (stR ts l k) k l[k]).2 := by rw [← hg]; exact ⟨rfl, rfl⟩
      generalize stR ts l k = cs at hst hlen2 ⊢
      repeat' (first | ((with_reducible (first | apply TD_e2z | apply TD_e3z | apply TL_e | apply TD_e2 | apply TD_e3)); (first | exact ES.auto | ((with_reducible apply ES_storeOwn); exact rfl; exact rfl; (first | ((repeat (first | with_reducible exact Upd.here _ _ _ | with_reducible apply Upd.there)); done) | (repeat (first | exact Upd.here _ _ _ | apply Upd.there))); exact fun _ => rfl; (first | exact List.getElem?_set_self (by first | assumption | omega) | exact List.getElem?_eq_getElem (by first | assumption | omega | (simp only [List.length_set]; omega))); decide; exact Cl.enc_mk _ _ _ _ _ _ _; exact rfl)); (first | exact rfl | exact ⟨rfl, rfl, rfl⟩); (first | (rintro _ _ ⟨rfl, rfl⟩) | (rintro _ _ ⟨g, rfl, rfl⟩) | (rintro _ _ ⟨A', c', rfl, rfl⟩)); (try refine ⟨SUB, ?_⟩)) | (refine GO ?_) | (refine GOE ?_; (first | (rintro _ _ ⟨rfl, rfl⟩) | (rintro _ _ ⟨g, rfl, rfl⟩) | (rintro _ _ ⟨A', c', rfl, rfl⟩))) | ((refine GO2 ?_ ?_) <;> intro h <;> (try (repeat (first | with_reducible (replace h := of_decide_eq_true h) | with_reducible (replace h := of_decide_eq_false h) | with_reducible (replace h := bnt h) | with_reducible (replace h := bnf h) | with_reducible (replace h := Int.not_lt.mp h) | with_reducible (replace h := Int.not_le.mp h) | with_reducible (replace h := band_dec h) | with_reducible (replace h := band_decF h) | with_reducible (replace h := bor_dec h) | with_reducible (replace h := bor_decF h)))) <;> (try (exfalso; first | contradiction | omega))) | ((with_reducible (first | apply TD_e2z | apply TD_e3z | apply TL_e | apply TD_e2 | apply TD_e3)); ((with_reducible apply ES_callV (f := 33)); exact rfl; (intro w hw; exact between_B _ _ _ _); exact rfl); (first | exact rfl | exact ⟨rfl, rfl, rfl⟩); (rintro _ _ ⟨rfl, rfl⟩); (try refine ⟨SUB, ?_⟩)))
      · (refine At_ret Try.results41 rfl (fun w' hw => ?_))
        have he : (evR ts cs k l[k]).1 = 3 := by unfold evR; rw [if_pos (by simp only [formBad, Bool.or_eq_true, decide_eq_true_eq]; omega)]
        rw [callsR_err hok hl2 hlt hno2 (hst.1.trans he) (by decide)]
        exact ⟨none, 0, rfl, Own.nil _ _, hw.below0 rfl⟩
      · (refine At_ret Try.results41 rfl (fun w' hw => ?_))
        have he : (evR ts cs k l[k]).1 = 3 := by unfold evR; rw [if_pos (by simp only [formBad, Bool.or_eq_true, decide_eq_true_eq]; omega)]
        rw [callsR_err hok hl2 hlt hno2 (hst.1.trans he) (by decide)]
        exact ⟨none, 0, rfl, Own.nil _ _, hw.below0 rfl⟩
      have hff : formBad ts l[k] = false := by simp only [formBad, Bool.or_eq_false_iff, decide_eq_false_iff_not]; omega
      refine T_loop (X := Nat)
        (fun j => [(55, .int .i64 (j : Nat)), (54, .int .i64 cs.length), (53, .slice A1 cs.length c1), (12, .int .i64 (openTo cs l[k].who j)), (11, .pointer (some ⟨g, 0, none⟩)), (10, .int .i64 (k : Nat)), (34, .int .i64 (k : Nat)), (33, .int .i64 l.length), (32, .slice (some ⟨b, o, none⟩) l.length c), (9, .slice A1 cs.length c1), (0, .slice T ts.length ct)])
        (fun _ => [entBlk g 45 (Ev.enc l[k]).toArray, entOwn Cl.enc 7 76 A1 c1 cs]) (fun j => j ≤ cs.length) (fun j => cs.length - j) 0
        (by omega) (by (repeat (first | exact SubE.nil _ | refine SubE.cons rfl ?_))) (by exact SUBS) ?_
      intro j hj
      by_cases hjl : j < cs.length
      · have hgj : cs.getD j default = cs[j] := by simp [hjl]
        refine T_own (by first | ((repeat (first | with_reducible exact List.mem_cons_self | with_reducible apply List.mem_cons_of_mem)); done) | (repeat (first | exact List.Mem.head _ | apply List.Mem.tail))) (by omega) ?_
        rintro g2 rfl
        repeat' (first | ((with_reducible (first | apply TD_e2z | apply TD_e3z | apply TL_e | apply TD_e2 | apply TD_e3)); (first | exact ES.auto | ((with_reducible apply ES_storeOwn); exact rfl; exact rfl; (first | ((repeat (first | with_reducible exact Upd.here _ _ _ | with_reducible apply Upd.there)); done) | (repeat (first | exact Upd.here _ _ _ | apply Upd.there))); exact fun _ => rfl; (first | exact List.getElem?_set_self (by first | assumption | omega) | exact List.getElem?_eq_getElem (by first | assumption | omega | (simp only [List.length_set]; omega))); decide; exact Cl.enc_mk _ _ _ _ _ _ _; exact rfl)); (first | exact rfl | exact ⟨rfl, rfl, rfl⟩); (first | (rintro _ _ ⟨rfl, rfl⟩) | (rintro _ _ ⟨g, rfl, rfl⟩) | (rintro _ _ ⟨A', c', rfl, rfl⟩)); (try refine ⟨SUB, ?_⟩)) | (refine GO ?_) | (refine GOE ?_; (first | (rintro _ _ ⟨rfl, rfl⟩) | (rintro _ _ ⟨g, rfl, rfl⟩) | (rintro _ _ ⟨A', c', rfl, rfl⟩))) | ((refine GO2 ?_ ?_) <;> intro h <;> (try (repeat (first | with_reducible (replace h := of_decide_eq_true h) | with_reducible (replace h := of_decide_eq_false h) | with_reducible (replace h := bnt h) | with_reducible (replace h := bnf h) | with_reducible (replace h := Int.not_lt.mp h) | with_reducible (replace h := Int.not_le.mp h) | with_reducible (replace h := band_dec h) | with_reducible (replace h := band_decF h) | with_reducible (replace h := bor_dec h) | with_reducible (replace h := bor_decF h)))) <;> (try (exfalso; first | contradiction | omega))))
        all_goals
          refine At_rounds (j + 1) (by show j + 1 ≤ cs.length; omega) (by omega) ?_ (by exact SUBS)
          have ho : openTo cs l[k].who (j + 1) = if cs[j].who = l[k].who ∧ cs[j].to = -1 then (j : Int) else openTo cs l[k].who j := by rw [openTo, hgj]
          rw [ho]
          first | rw [if_pos ⟨‹_›, ‹_›⟩] | rw [if_neg (by intro h; simp_all)]
          (repeat (first | exact SubE.nil _ | refine SubE.cons rfl ?_))
      · obtain rfl : j = cs.length := by omega
        have hzl := openTo_lt cs l[k].who cs.length
        generalize hz : openTo cs l[k].who cs.length = z at hzl ⊢
        obtain ⟨bt, ot, rfl, hbt⟩ := RdE.open hT (by omega)
        have hzt : l[k].thing.toNat < ts.length := by omega
        have hgt : ts.getD l[k].thing.toNat 0 = ts[l[k].thing.toNat] := by simp [hzt]
        by_cases hz0 : 0 ≤ z
        · refine T_own (by first | ((repeat (first | with_reducible exact List.mem_cons_self | with_reducible apply List.mem_cons_of_mem)); done) | (repeat (first | exact List.Mem.head _ | apply List.Mem.tail))) (by omega) ?_
          rintro g2 rfl
          have hzn : z.toNat < cs.length := by omega
          have hgz : cs.getD z.toNat default = cs[z.toNat] := by simp [hzn]
          repeat' (first | ((with_reducible (first | apply TD_e2z | apply TD_e3z | apply TL_e | apply TD_e2 | apply TD_e3)); (first | exact ES.auto | ((with_reducible apply ES_storeOwn); exact rfl; exact rfl; (first | ((repeat (first | with_reducible exact Upd.here _ _ _ | with_reducible apply Upd.there)); done) | (repeat (first | exact Upd.here _ _ _ | apply Upd.there))); exact fun _ => rfl; (first | exact List.getElem?_set_self (by first | assumption | omega) | exact List.getElem?_eq_getElem (by first | assumption | omega | (simp only [List.length_set]; omega))); decide; exact Cl.enc_mk _ _ _ _ _ _ _; exact rfl)); (first | exact rfl | exact ⟨rfl, rfl, rfl⟩); (first | (rintro _ _ ⟨rfl, rfl⟩) | (rintro _ _ ⟨g, rfl, rfl⟩) | (rintro _ _ ⟨A', c', rfl, rfl⟩)); (try refine ⟨SUB, ?_⟩)) | (refine GG ?_) | (refine GE ?_; (first | (rintro _ _ ⟨rfl, rfl⟩) | (rintro _ _ ⟨g, rfl, rfl⟩) | (rintro _ _ ⟨A', c', rfl, rfl⟩)); (try refine ⟨SUB, ?_⟩)) | ((refine GO2 ?_ ?_) <;> intro h <;> (try (repeat (first | with_reducible (replace h := of_decide_eq_true h) | with_reducible (replace h := of_decide_eq_false h) | with_reducible (replace h := bnt h) | with_reducible (replace h := bnf h) | with_reducible (replace h := Int.not_lt.mp h) | with_reducible (replace h := Int.not_le.mp h) | with_reducible (replace h := band_dec h) | with_reducible (replace h := band_decF h) | with_reducible (replace h := bor_dec h) | with_reducible (replace h := bor_decF h)))) <;> (try (exfalso; first | contradiction | omega))) | (refine GOF ?_ ?_) | ((with_reducible apply T_draw (id := 27) 1000 (OT.seq [(0, 0), (0, 1), (0, 2), (0, 3), (0, 5), (1, 4), (1, 6), (0, 7), (0, 8), (0, 9), (0, 10), (0, 11), (0, 12), (0, 14), (1, 13), (1, 15), (2, 16), (0, 17), (0, 18)] .nil)); kernel_rfl; exact rfl; kernel_rfl; (repeat (first | with_reducible exact Blind.body | with_reducible apply Blind.seq | with_reducible apply Blind.block))) | ((with_reducible apply T_draw (id := 30) 1000 (OT.seq [(0, 0), (0, 1), (0, 6), (1, 2), (0, 3), (1, 4), (1, 7), (2, 5), (2, 8), (0, 9), (0, 10), (0, 11), (0, 13), (1, 12), (1, 14), (2, 15), (0, 16), (0, 17)] .nil)); kernel_rfl; exact rfl; kernel_rfl; (repeat (first | with_reducible exact Blind.body | with_reducible apply Blind.seq | with_reducible apply Blind.block))) | ((with_reducible (first | apply TD_e2z | apply TD_e3z | apply TL_e | apply TD_e2 | apply TD_e3)); ((with_reducible apply ES_callV (f := 105)); exact rfl; (intro w hw; exact Calls.same_below (answers_any _ _ _)); exact rfl); (first | exact rfl | exact ⟨rfl, rfl, rfl⟩); (rintro _ _ ⟨rfl, rfl⟩); (try refine ⟨SUB, ?_⟩)) | ((with_reducible (first | apply TD_e2z | apply TD_e3z | apply TL_e | apply TD_e2 | apply TD_e3)); ((with_reducible apply ES_callOwn (f := 106)); exact rfl; (intro w hw; exact kinds_T _ _); exact rfl); (first | exact rfl | exact ⟨rfl, rfl, rfl⟩); (rintro _ _ ⟨A, c, rfl, rfl⟩); (try refine ⟨SUB, ?_⟩)) | ((with_reducible (first | apply TD_e2z | apply TD_e3z | apply TL_e | apply TD_e2 | apply TD_e3)); ((with_reducible apply ES_callV (f := 92)); exact rfl; (intro w hw; exact contains_any _ _ (kindsL _) _ _ (kindsL_len _) (Mem.ownRd hw (by first | ((repeat (first | with_reducible exact List.mem_cons_self | with_reducible apply List.mem_cons_of_mem)); done) | (repeat (first | exact List.Mem.head _ | apply List.Mem.tail))) (fun _ => rfl))); exact rfl); (first | exact rfl | exact ⟨rfl, rfl, rfl⟩); (rintro _ _ ⟨rfl, rfl⟩); (try refine ⟨SUB, ?_⟩)) | ((with_reducible (first | apply TD_e2z | apply TD_e3z | apply TL_e | apply TD_e2 | apply TD_e3)); ((with_reducible apply ES_callV (f := 107)); exact rfl; (intro w hw; exact asks_any _ _ _); exact rfl); (first | exact rfl | exact ⟨rfl, rfl, rfl⟩); (rintro _ _ ⟨rfl, rfl⟩); (try refine ⟨SUB, ?_⟩)) | ((with_reducible (first | apply TD_e2z | apply TD_e3z | apply TL_e | apply TD_e2 | apply TD_e3)); ((with_reducible apply ES_append (enc := Cl.enc) (xs := [(⟨l[k].who, l[k].thing, l[k].kind, l[k].value, 0, k, -1⟩ : Cl)])); exact rfl; exact rfl; exact Lies.blk (by first | ((repeat (first | with_reducible exact List.mem_cons_self | with_reducible apply List.mem_cons_of_mem)); done) | (repeat (first | exact List.Mem.head _ | apply List.Mem.tail))); exact fun _ => rfl; exact fun _ => rfl; (intro A' c'; first | ((repeat (first | with_reducible exact Upd.here _ _ _ | with_reducible apply Upd.there)); done) | (repeat (first | exact Upd.here _ _ _ | apply Upd.there))); (simp; omega); decide; exact rfl); (first | exact rfl | exact ⟨rfl, rfl, rfl⟩); (rintro _ _ ⟨A', c', rfl, rfl⟩); (try refine ⟨SUB, ?_⟩)))
          · (refine At_ret Try.results41 rfl (fun w' hw => ?_))
            rw [callsR_err hok hl2 hlt hno2 (hst.1.trans (congrArg Prod.fst (evR_bad0 hff ‹_› hz hz0 hgz (fun hh => absurd hh.1 ‹_›)))) (by simp)]
            exact ⟨none, 0, rfl, Own.nil _ _, hw.below0 rfl⟩
          · (refine At_ret Try.results41 rfl (fun w' hw => ?_))
            rw [callsR_err hok hl2 hlt hno2 (hst.1.trans (congrArg Prod.fst (evR_bad0 hff ‹_› hz hz0 hgz (fun hh => absurd hh.2 (by rw [‹ansB _ _ = false›]; simp))))) (by simp)]
            exact ⟨none, 0, rfl, Own.nil _ _, hw.below0 rfl⟩
          · have hev := evR_end hff ‹_› hz hz0 hgz ⟨‹_›, ‹_›⟩ (i := k)
            rw [hev] at hst
            refine At_rounds (k + 1, some ⟨g2, 0, none⟩, c1) ⟨by show k + 1 ≤ _; omega, all_succ hno2 hst.1⟩ (by show l.length - (k + 1) < l.length - k; omega) ?_ ?_
            · simp only [hst.2, List.length_set]; (repeat (first | exact SubE.nil _ | refine SubE.cons rfl ?_))
            · simp only [hst.2]
              intro w hw
              have := hw.sub (S' := [entOwn Cl.enc 7 76 (some ⟨g2, 0, none⟩) c1 _]) (by first | ((repeat (first | with_reducible exact List.nil_sublist _ | with_reducible exact List.Sublist.refl _ | with_reducible apply List.Sublist.cons_cons | with_reducible apply List.Sublist.cons)); done) | (repeat (first | exact List.nil_sublist _ | exact List.Sublist.refl _ | apply List.Sublist.cons_cons | apply List.Sublist.cons)))
              rw [List.set_set] at this
              exact this
          · (refine At_ret Try.results41 rfl (fun w' hw => ?_))
            rw [callsR_err hok hl2 hlt hno2 (hst.1.trans (congrArg Prod.fst (evR_bad1 hff ‹_› (thing_at hzt hgt) (by rw [‹List.contains _ _ = false›]; rfl)))) (by simp)]
            exact ⟨none, 0, rfl, Own.nil _ _, hw.below0 rfl⟩
          · (refine At_ret Try.results41 rfl (fun w' hw => ?_))
            rw [callsR_err hok hl2 hlt hno2 (hst.1.trans (congrArg Prod.fst (evR_bad1 hff ‹_› (thing_at hzt hgt) (by rw [‹argB _ _ = false›]; simp)))) (by simp)]
            exact ⟨none, 0, rfl, Own.nil _ _, hw.below0 rfl⟩
          · (refine At_ret Try.results41 rfl (fun w' hw => ?_))
            rw [callsR_err hok hl2 hlt hno2 (hst.1.trans (congrArg Prod.fst (evR_twice hff ‹_› (thing_at hzt hgt) ‹_› ‹_› hz hz0))) (by simp)]
            exact ⟨none, 0, rfl, Own.nil _ _, hw.below0 rfl⟩
        · repeat' (first | ((with_reducible (first | apply TD_e2z | apply TD_e3z | apply TL_e | apply TD_e2 | apply TD_e3)); (first | exact ES.auto | ((with_reducible apply ES_storeOwn); exact rfl; exact rfl; (first | ((repeat (first | with_reducible exact Upd.here _ _ _ | with_reducible apply Upd.there)); done) | (repeat (first | exact Upd.here _ _ _ | apply Upd.there))); exact fun _ => rfl; (first | exact List.getElem?_set_self (by first | assumption | omega) | exact List.getElem?_eq_getElem (by first | assumption | omega | (simp only [List.length_set]; omega))); decide; exact Cl.enc_mk _ _ _ _ _ _ _; exact rfl)); (first | exact rfl | exact ⟨rfl, rfl, rfl⟩); (first | (rintro _ _ ⟨rfl, rfl⟩) | (rintro _ _ ⟨g, rfl, rfl⟩) | (rintro _ _ ⟨A', c', rfl, rfl⟩)); (try refine ⟨SUB, ?_⟩)) | (refine GG ?_) | (refine GE ?_; (first | (rintro _ _ ⟨rfl, rfl⟩) | (rintro _ _ ⟨g, rfl, rfl⟩) | (rintro _ _ ⟨A', c', rfl, rfl⟩)); (try refine ⟨SUB, ?_⟩)) | ((refine GO2 ?_ ?_) <;> intro h <;> (try (repeat (first | with_reducible (replace h := of_decide_eq_true h) | with_reducible (replace h := of_decide_eq_false h) | with_reducible (replace h := bnt h) | with_reducible (replace h := bnf h) | with_reducible (replace h := Int.not_lt.mp h) | with_reducible (replace h := Int.not_le.mp h) | with_reducible (replace h := band_dec h) | with_reducible (replace h := band_decF h) | with_reducible (replace h := bor_dec h) | with_reducible (replace h := bor_decF h)))) <;> (try (exfalso; first | contradiction | omega))) | (refine GOF ?_ ?_) | ((with_reducible apply T_draw (id := 27) 1000 (OT.seq [(0, 0), (0, 1), (0, 2), (0, 3), (0, 5), (1, 4), (1, 6), (0, 7), (0, 8), (0, 9), (0, 10), (0, 11), (0, 12), (0, 14), (1, 13), (1, 15), (2, 16), (0, 17), (0, 18)] .nil)); kernel_rfl; exact rfl; kernel_rfl; (repeat (first | with_reducible exact Blind.body | with_reducible apply Blind.seq | with_reducible apply Blind.block))) | ((with_reducible apply T_draw (id := 30) 1000 (OT.seq [(0, 0), (0, 1), (0, 6), (1, 2), (0, 3), (1, 4), (1, 7), (2, 5), (2, 8), (0, 9), (0, 10), (0, 11), (0, 13), (1, 12), (1, 14), (2, 15), (0, 16), (0, 17)] .nil)); kernel_rfl; exact rfl; kernel_rfl; (repeat (first | with_reducible exact Blind.body | with_reducible apply Blind.seq | with_reducible apply Blind.block))) | ((with_reducible (first | apply TD_e2z | apply TD_e3z | apply TL_e | apply TD_e2 | apply TD_e3)); ((with_reducible apply ES_callV (f := 105)); exact rfl; (intro w hw; exact Calls.same_below (answers_any _ _ _)); exact rfl); (first | exact rfl | exact ⟨rfl, rfl, rfl⟩); (rintro _ _ ⟨rfl, rfl⟩); (try refine ⟨SUB, ?_⟩)) | ((with_reducible (first | apply TD_e2z | apply TD_e3z | apply TL_e | apply TD_e2 | apply TD_e3)); ((with_reducible apply ES_callOwn (f := 106)); exact rfl; (intro w hw; exact kinds_T _ _); exact rfl); (first | exact rfl | exact ⟨rfl, rfl, rfl⟩); (rintro _ _ ⟨A, c, rfl, rfl⟩); (try refine ⟨SUB, ?_⟩)) | ((with_reducible (first | apply TD_e2z | apply TD_e3z | apply TL_e | apply TD_e2 | apply TD_e3)); ((with_reducible apply ES_callV (f := 92)); exact rfl; (intro w hw; exact contains_any _ _ (kindsL _) _ _ (kindsL_len _) (Mem.ownRd hw (by first | ((repeat (first | with_reducible exact List.mem_cons_self | with_reducible apply List.mem_cons_of_mem)); done) | (repeat (first | exact List.Mem.head _ | apply List.Mem.tail))) (fun _ => rfl))); exact rfl); (first | exact rfl | exact ⟨rfl, rfl, rfl⟩); (rintro _ _ ⟨rfl, rfl⟩); (try refine ⟨SUB, ?_⟩)) | ((with_reducible (first | apply TD_e2z | apply TD_e3z | apply TL_e | apply TD_e2 | apply TD_e3)); ((with_reducible apply ES_callV (f := 107)); exact rfl; (intro w hw; exact asks_any _ _ _); exact rfl); (first | exact rfl | exact ⟨rfl, rfl, rfl⟩); (rintro _ _ ⟨rfl, rfl⟩); (try refine ⟨SUB, ?_⟩)) | ((with_reducible (first | apply TD_e2z | apply TD_e3z | apply TL_e | apply TD_e2 | apply TD_e3)); ((with_reducible apply ES_append (enc := Cl.enc) (xs := [(⟨l[k].who, l[k].thing, l[k].kind, l[k].value, 0, k, -1⟩ : Cl)])); exact rfl; exact rfl; exact Lies.blk (by first | ((repeat (first | with_reducible exact List.mem_cons_self | with_reducible apply List.mem_cons_of_mem)); done) | (repeat (first | exact List.Mem.head _ | apply List.Mem.tail))); exact fun _ => rfl; exact fun _ => rfl; (intro A' c'; first | ((repeat (first | with_reducible exact Upd.here _ _ _ | with_reducible apply Upd.there)); done) | (repeat (first | exact Upd.here _ _ _ | apply Upd.there))); (simp; omega); decide; exact rfl); (first | exact rfl | exact ⟨rfl, rfl, rfl⟩); (rintro _ _ ⟨A', c', rfl, rfl⟩); (try refine ⟨SUB, ?_⟩)))
          · (refine At_ret Try.results41 rfl (fun w' hw => ?_))
            rw [callsR_err hok hl2 hlt hno2 (hst.1.trans (congrArg Prod.fst (evR_none hff ‹_› hz (by omega)))) (by simp)]
            exact ⟨none, 0, rfl, Own.nil _ _, hw.below0 rfl⟩
          · (refine At_ret Try.results41 rfl (fun w' hw => ?_))
            rw [callsR_err hok hl2 hlt hno2 (hst.1.trans (congrArg Prod.fst (evR_bad1 hff ‹_› (thing_at hzt hgt) (by rw [‹List.contains _ _ = false›]; rfl)))) (by simp)]
            exact ⟨none, 0, rfl, Own.nil _ _, hw.below0 rfl⟩
          · (refine At_ret Try.results41 rfl (fun w' hw => ?_))
            rw [callsR_err hok hl2 hlt hno2 (hst.1.trans (congrArg Prod.fst (evR_bad1 hff ‹_› (thing_at hzt hgt) (by rw [‹argB _ _ = false›]; simp)))) (by simp)]
            exact ⟨none, 0, rfl, Own.nil _ _, hw.below0 rfl⟩
          · have hev := evR_push hff ‹_› (thing_at hzt hgt) ‹_› ‹_› hz (by omega) (i := k)
            rw [hev] at hst
            refine At_rounds (k + 1, A', c') ⟨by show k + 1 ≤ _; omega, all_succ hno2 hst.1⟩ (by show l.length - (k + 1) < l.length - k; omega) ?_ ?_
            · simp only [hst.2]; (repeat (first | exact SubE.nil _ | refine SubE.cons rfl ?_))
            · simp only [hst.2]; exact SUBS
    · obtain rfl : k = l.length := by omega
      repeat' (first | ((with_reducible (first | apply TD_e2z | apply TD_e3z | apply TL_e | apply TD_e2 | apply TD_e3)); (first | exact ES.auto | ((with_reducible apply ES_storeOwn); exact rfl; exact rfl; (first | ((repeat (first | with_reducible exact Upd.here _ _ _ | with_reducible apply Upd.there)); done) | (repeat (first | exact Upd.here _ _ _ | apply Upd.there))); exact fun _ => rfl; (first | exact List.getElem?_set_self (by first | assumption | omega) | exact List.getElem?_eq_getElem (by first | assumption | omega | (simp only [List.length_set]; omega))); decide; exact Cl.enc_mk _ _ _ _ _ _ _; exact rfl)); (first | exact rfl | exact ⟨rfl, rfl, rfl⟩); (first | (rintro _ _ ⟨rfl, rfl⟩) | (rintro _ _ ⟨g, rfl, rfl⟩) | (rintro _ _ ⟨A', c', rfl, rfl⟩)); (try refine ⟨SUB, ?_⟩)) | (refine GO ?_) | (refine GOE ?_; (first | (rintro _ _ ⟨rfl, rfl⟩) | (rintro _ _ ⟨g, rfl, rfl⟩) | (rintro _ _ ⟨A', c', rfl, rfl⟩))) | ((refine GO2 ?_ ?_) <;> intro h <;> (try (repeat (first | with_reducible (replace h := of_decide_eq_true h) | with_reducible (replace h := of_decide_eq_false h) | with_reducible (replace h := bnt h) | with_reducible (replace h := bnf h) | with_reducible (replace h := Int.not_lt.mp h) | with_reducible (replace h := Int.not_le.mp h) | with_reducible (replace h := band_dec h) | with_reducible (replace h := band_decF h) | with_reducible (replace h := bor_dec h) | with_reducible (replace h := bor_decF h)))) <;> (try (exfalso; first | contradiction | omega))))
      (refine At_ret Try.results41 rfl (fun w' hw => ?_))
      rw [callsR_ok hok hl2 hno2]
      exact ⟨A1, c1, rfl, hw.ownOut rfl (by first | ((repeat (first | with_reducible exact List.mem_cons_self | with_reducible apply List.mem_cons_of_mem)); done) | (repeat (first | exact List.Mem.head _ | apply List.Mem.tail))), hw.below0 rfl⟩
end Go.Proofs.Ytiimjppceobkfaa

namespace Go.Proofs.Ytiimjppceobkfaa
open Go.RowKit

theorem callsCode_any (A B : Option Addr) (c d : Nat) (ts : List Int) (l : List Ev) (w : World) (hts : ts.length ≤ 9223372036854775807) (hl : l.length ≤ 9223372036854775807) (hT : RdInt w A ts) (hA : RdEv w B l) :
    Calls Try.prog 143 #[.slice A ts.length c, .slice B l.length d] w fun e w' => ∃ A' c', e = .returned (.tuple #[.slice A' (callsR ts l).1.length c', .int .i64 (callsR ts l).2.1, .int .i64 (callsR ts l).2.2]) ∧
      Own Cl.enc 7 76 w' w.heap.size (.slice A' (callsR ts l).1.length c') (callsR ts l).1 ∧ Below w.heap.size w w' := by
  rw [← calls_same]
  exact calls_any A B c d ts l w hts hl hT hA
theorem callsR_len (ts : List Int) (l : List Ev) : (callsR ts l).1.length ≤ 200 := by
  unfold callsR
  split
  · simp
  · split
    · simp
    · split
      · simp
      · have := stP_len ts l l.length
        rw [(run_same ts l l.length).1] at this
        show (stR ts l l.length).length ≤ 200
        omega
/-- what is so of each call that a reading keeps -/
structure ClOk (ts : List Int) (i : Int) (c : Cl) : Prop where
  who : 0 ≤ c.who ∧ c.who < 8
  thing : 0 ≤ c.thing ∧ c.thing < ts.length
  kind : (kindsL (ts.getD c.thing.toNat 0)).contains c.kind = true
  arg : argB c.kind c.arg = true
  place : 0 ≤ c.from_ ∧ c.from_ < i
structure ClsOk (ts : List Int) (i : Int) (cs : List Cl) : Prop where
  each : ∀ q (h : q < cs.length), ClOk ts i cs[q]
  rising : ∀ p q (h1 : p < q) (h : q < cs.length), cs[p].from_ < cs[q].from_
theorem ClOk.mono {ts : List Int} {i j : Int} {c : Cl} (h : ClOk ts i c) (hij : i ≤ j) : ClOk ts j c := ⟨h.who, h.thing, h.kind, h.arg, by have := h.place; omega⟩
theorem clsOk_step {ts : List Int} {i : Int} {cs : List Cl} (x : Ev) (hi : 0 ≤ i) (h : ClsOk ts i cs) : ClsOk ts (i + 1) (evR ts cs i x).2 := by
  have keep : ClsOk ts (i + 1) cs := ⟨fun q hq => (h.each q hq).mono (by omega), h.rising⟩
  unfold evR
  by_cases hf : formBad ts x = true
  · rw [if_pos hf]; exact keep
  · rw [if_neg hf]
    have hf' : formBad ts x = false := by simpa using hf
    by_cases hk : x.kind = 0
    · rw [if_pos hk]
      split
      · exact keep
      · split
        · rename_i hz hc
          obtain ⟨m, hm⟩ : ∃ m, (openTo cs x.who cs.length).toNat = m := ⟨_, rfl⟩
          have hlt := openTo_lt cs x.who cs.length
          have hml : m < cs.length := by omega
          rw [hm]
          have hd : cs.getD m default = cs[m] := by simp [hml]
          rw [hd]
          dsimp only
          refine ⟨fun q hq => ?_, fun p q hpq hq => ?_⟩
          · have hq' : q < cs.length := by simpa using hq
            have hc' := keep.each q hq'
            rw [List.getElem_set]
            split
            · rename_i e
              subst e
              exact ⟨hc'.who, hc'.thing, hc'.kind, hc'.arg, hc'.place⟩
            · exact hc'
          · have hq' : q < cs.length := by simpa using hq
            have hr := h.rising p q hpq hq'
            rw [List.getElem_set, List.getElem_set]
            split <;> split <;> (subst_vars; first | exact hr | omega)
        · exact keep
    · rw [if_neg hk]
      split
      · exact keep
      · split
        · exact keep
        · rename_i hb _
          simp only [formBad, Bool.or_eq_false_iff, decide_eq_false_iff_not] at hf'
          have hb' : ((kindsL (ts.getD x.thing.toNat 0)).contains x.kind && argB x.kind x.value) = true := by simpa using hb
          rw [Bool.and_eq_true] at hb'
          dsimp only
          refine ⟨fun q hq => ?_, fun p q hpq hq => ?_⟩
          · by_cases e : q < cs.length
            · rw [List.getElem_append_left e]; exact keep.each q e
            · rw [List.getElem_append_right (by omega)]
              simp only [List.getElem_singleton]
              exact ⟨by dsimp only; omega, by dsimp only; omega, hb'.1, hb'.2, by dsimp only; omega⟩
          · simp only [List.length_append, List.length_cons, List.length_nil] at hq
            by_cases e : q < cs.length
            · rw [List.getElem_append_left e, List.getElem_append_left (by omega)]; exact h.rising p q hpq e
            · rw [List.getElem_append_left (show p < cs.length by omega), List.getElem_append_right (by omega)]
              simp only [List.getElem_singleton]
              have := (h.each p (by omega)).place
              omega
theorem clsOk_st (ts : List Int) (l : List Ev) : ∀ k : Nat, ClsOk ts (k : Int) (stR ts l k)
  | 0 => ⟨fun q h => by simp [stR] at h, fun p q _ h => by simp [stR] at h⟩
  | k + 1 => by
    have := clsOk_step (ts := ts) (i := k) (l.getD k default) (by omega) (clsOk_st ts l k)
    rw [stR]
    exact this
/-- the calls that a reading gives -/
theorem callsR_inv {ts : List Int} {l : List Ev} (h : (callsR ts l).2.2 = 0) : typesOk ts = true ∧ l.length ≤ 200 ∧ (∀ j, j < l.length → erR ts l j = 0) ∧ (callsR ts l).1 = stR ts l l.length := by
  by_cases h1 : typesOk ts = true
  · by_cases h2 : 200 < l.length
    · rw [callsR_long h1 h2] at h; cases h
    · rcases Nat.lt_or_ge (failR ts l) l.length with hf | hf
      · exfalso
        have hk : ∃ k, k < l.length ∧ (∀ j, j < k → erR ts l j = 0) ∧ erR ts l k ≠ 0 := by
          unfold failR at hf
          cases hc : (List.range l.length).find? fun k => decide (erR ts l k ≠ 0) with
          | none => rw [hc] at hf; simp at hf
          | some k =>
            rw [List.find?_range_eq_some] at hc
            exact ⟨k, by simpa using hc.2.1, fun j hj => by simpa using hc.2.2 j hj, by simpa using hc.1⟩
        obtain ⟨k, a, b, c⟩ := hk
        rw [callsR_err h1 (by omega) a b rfl c] at h
        exact c h
      · have hall : ∀ j, j < l.length → erR ts l j = 0 := by
          intro j hj
          refine Decidable.byContradiction fun hn => ?_
          unfold failR at hf
          cases hc : (List.range l.length).find? fun k => decide (erR ts l k ≠ 0) with
          | none =>
            rw [List.find?_eq_none] at hc
            have := hc j (by simpa using hj)
            simp only [decide_eq_true_eq] at this
            exact this hn
          | some k =>
            rw [hc] at hf
            rw [List.find?_range_eq_some] at hc
            have h3 : k < l.length := by simpa using hc.2.1
            simp at hf
            omega
        refine ⟨h1, by omega, hall, ?_⟩
        rw [callsR_ok h1 (by omega) hall]
  · rw [callsR_types (by simpa using h1)] at h; cases h
/-- the same value written twice to one -/
def dupB (x y : Cl) : Bool := decide (x.kind = 1) && (decide (y.kind = 1) && (decide (x.thing = y.thing) && decide (x.arg = y.arg)))
theorem dupB_symm (x y : Cl) : dupB x y = dupB y x := by
  rw [Bool.eq_iff_iff]
  simp only [dupB, Bool.and_eq_true, decide_eq_true_eq]
  constructor <;> (rintro ⟨a, b, c, d⟩; exact ⟨b, a, c.symm, d.symm⟩)
def regsOk (ts : List Int) : Prop := ∀ j (h : j < ts.length), ts[j] = 1
def callOk (cs : List Cl) (i : Nat) : Prop := ∀ h : i < cs.length, cs[i].to ≠ -1 ∧ ∀ j (hj : j < i), dupB cs[i] cs[j] = false
def goodC (ts : List Int) (cs : List Cl) : Prop := regsOk ts ∧ ∀ i, i < cs.length → callOk cs i
open Classical in
noncomputable def fewR (ts : List Int) (l : List Ev) : List Cl × Int :=
  if (callsR ts l).2.2 ≠ 0 then ([], (callsR ts l).2.2)
  else if ¬ goodC ts (callsR ts l).1 then ([], 6)
  else if 7 < (callsR ts l).1.length then ([], 2)
  else ((callsR ts l).1, 0)
theorem fewR_err {ts : List Int} {l : List Ev} {e : Int} (h : (callsR ts l).2.2 = e) (hn : ¬ e = 0) : fewR ts l = ([], e) := by
  unfold fewR; rw [if_pos (by rw [h]; exact hn), h]
theorem fewR_class {ts : List Int} {l : List Ev} {cs : List Cl} {k : Int} (h : callsR ts l = (cs, k, 0)) (hn : ¬ goodC ts cs) : fewR ts l = ([], 6) := by
  unfold fewR; rw [if_neg (by rw [h]; simp), h]; dsimp only; rw [if_pos hn]
theorem fewR_large {ts : List Int} {l : List Ev} {cs : List Cl} {k : Int} (h : callsR ts l = (cs, k, 0)) (hn : goodC ts cs) (h7 : 7 < cs.length) : fewR ts l = ([], 2) := by
  unfold fewR; rw [if_neg (by rw [h]; simp), h]; dsimp only; rw [if_neg (by simpa using hn), if_pos h7]
theorem fewR_ok {ts : List Int} {l : List Ev} {cs : List Cl} {k : Int} (h : callsR ts l = (cs, k, 0)) (hn : goodC ts cs) (h7 : ¬ 7 < cs.length) : fewR ts l = (cs, 0) := by
  unfold fewR; rw [if_neg (by rw [h]; simp), h]; dsimp only; rw [if_neg (by simpa using hn), if_neg h7]
/-- what the calls are, where there are few -/
structure Few (cs : List Cl) : Prop where
  len : cs.length ≤ 7
  who : ∀ q (h : q < cs.length), 0 ≤ cs[q].who ∧ cs[q].who < 8
  thing : ∀ q (h : q < cs.length), 0 ≤ cs[q].thing ∧ cs[q].thing < 4
  kind : ∀ q (h : q < cs.length), cs[q].kind = 1 ∨ cs[q].kind = 2
  rising : ∀ p q (h1 : p < q) (h : q < cs.length), cs[p].from_ < cs[q].from_
theorem few_of {ts : List Int} {l : List Ev} (h : (fewR ts l).2 = 0) : Few (fewR ts l).1 := by
  by_cases h0 : (callsR ts l).2.2 = 0
  · obtain ⟨cs, k, z, hc⟩ : ∃ cs k z, callsR ts l = (cs, k, z) := ⟨_, _, _, rfl⟩
    have hz : z = 0 := by rw [hc] at h0; exact h0
    subst hz
    obtain ⟨t1, _, _, t4⟩ := callsR_inv h0
    by_cases hg : goodC ts cs
    · by_cases h7 : 7 < cs.length
      · rw [fewR_large hc hg h7] at h; cases h
      · rw [fewR_ok hc hg h7]
        dsimp only
        have hcs : cs = stR ts l l.length := by rw [hc] at t4; exact t4
        have hI := clsOk_st ts l l.length
        rw [← hcs] at hI
        have hlen : ts.length ≤ 4 := by
          unfold typesOk at t1
          simp only [Bool.and_eq_true, decide_eq_true_eq] at t1
          exact t1.1.2
        refine ⟨by omega, fun q hq => (hI.each q hq).who, fun q hq => ?_, fun q hq => ?_, hI.rising⟩
        · have := (hI.each q hq).thing; omega
        · have hk := (hI.each q hq).kind
          have ht := (hI.each q hq).thing
          have e : ts.getD cs[q].thing.toNat 0 = 1 := by
            rw [List.getD_eq_getElem?_getD, List.getElem?_eq_getElem (by omega)]
            exact hg.1 _ _
          rw [e] at hk
          simp [kindsL] at hk
          exact hk
    · rw [fewR_class hc hg] at h; cases h
  · rw [fewR_err rfl h0] at h
    exact absurd h h0
end Go.Proofs.Ytiimjppceobkfaa

namespace Go.Proofs.Ytiimjppceobkfaa
open Go.RowKit

theorem beq_bytes (a b : ByteArray) : (a == b) = decide (a = b) := by
  show (a.data == b.data) = _
  rw [Bool.eq_iff_iff, beq_iff_eq, decide_eq_true_eq, ByteArray.ext_iff]
def bytesOf (l : List Nat) : ByteArray := l.foldl (fun r n => r.push (UInt8.ofNat n)) ByteArray.empty
theorem bytesOf_data (l : List Nat) : (bytesOf l).data.toList = l.map UInt8.ofNat := by
  have key : ∀ (l : List Nat) (r : ByteArray), (l.foldl (fun r n => r.push (UInt8.ofNat n)) r).data.toList = r.data.toList ++ l.map UInt8.ofNat := by
    intro l
    induction l with
    | nil => simp
    | cons n l ih => intro r; rw [List.foldl_cons, ih]; simp [ByteArray.push]
  rw [bytesOf, key]; simp
theorem bytesOf_inj {l l' : List Nat} (h : ∀ n ∈ l, n < 256) (h' : ∀ n ∈ l', n < 256) (he : bytesOf l = bytesOf l') : l = l' := by
  have h1 : l.map UInt8.ofNat = l'.map UInt8.ofNat := by rw [← bytesOf_data, ← bytesOf_data, he]
  have h2 := congrArg (List.map UInt8.toNat) h1
  rw [List.map_map, List.map_map] at h2
  have q : ∀ m : List Nat, (∀ n ∈ m, n < 256) → m.map (UInt8.toNat ∘ UInt8.ofNat) = m := fun m hm => by
    conv => rhs; rw [← List.map_id m]
    exact List.map_congr_left fun n hn => by simp; exact hm n hn
  rwa [q l h, q l' h'] at h2
class MapStr (P : Program) (t : Nat) (k e : outParam Nat) : Prop where
  und : P.underlying t = some (.map k e)
  key : P.underlying k = some .string
/-- a set of texts: the map's keys, each with true -/
def SetS (w : World) (g : Nat) (D : List ByteArray) : Prop := ∃ es cl, w.heap[g]? = some (.map es cl) ∧ es.toList.map (fun e => (e.key, e.val)) = D.map fun b => (Value.string b, Value.bool true)
def entSet (g : Nat) (D : List ByteArray) : Ent :=
  ⟨fun k => some g = some k, [g], fun k => by simp [eq_comm], fun w => SetS w g D, fun w w' h hp => by
    obtain ⟨es, cl, hg, hes⟩ := hp
    exact ⟨es, cl, (h g rfl).trans hg, hes⟩⟩
def hasB (D : List ByteArray) (b : ByteArray) : Bool := D.any fun x => decide (b = x)
def addB (D : List ByteArray) (b : ByteArray) : List ByteArray := if hasB D b = true then D else D ++ [b]
theorem hasB_iff {D : List ByteArray} {b : ByteArray} : hasB D b = true ↔ b ∈ D := by
  unfold hasB
  rw [List.any_eq_true]
  exact ⟨fun ⟨x, hx, h⟩ => by simp at h; subst h; exact hx, fun h => ⟨b, h, by simp⟩⟩
def findB (b : ByteArray) : List ByteArray → Nat → Option Nat
  | [], _ => none
  | x :: D, i => if b = x then some i else findB b D (i + 1)
theorem findB_has (b : ByteArray) : ∀ (D : List ByteArray) (i : Nat), (findB b D i).isSome = hasB D b
  | [], _ => rfl
  | x :: D, i => by
    unfold findB hasB
    rw [List.any_cons]
    by_cases h : b = x
    · simp [h]
    · simp only [if_neg h, h, decide_false, Bool.false_or]; exact findB_has b D (i + 1)
theorem findB_at (b : ByteArray) : ∀ (D : List ByteArray) (i j : Nat), findB b D i = some j → i ≤ j ∧ D[j - i]? = some b
  | [], _, _, h => by cases h
  | x :: D, i, j, h => by
    unfold findB at h
    split at h
    · rename_i e
      cases h; subst e; simp
    · obtain ⟨h1, h2⟩ := findB_at b D (i + 1) j h
      have e : j - i = (j - (i + 1)) + 1 := by omega
      exact ⟨by omega, by rw [e]; simpa using h2⟩
theorem findNow_str (b : ByteArray) : ∀ (es : List MapEntry) (D : List ByteArray) (i : Nat), es.map (fun e => (e.key, e.val)) = D.map (fun b => (Value.string b, Value.bool true)) →
    Instr.findNow .string (.string b) es i = some ((findB b D i).map fun j => (j, .bool true))
  | [], [], _, _ => rfl
  | [], p :: D, _, h => by simp at h
  | e :: es, [], _, h => by simp at h
  | e :: es, p :: D, i, h => by
    simp only [List.map_cons, List.cons.injEq, Prod.mk.injEq] at h
    obtain ⟨⟨h1, h2⟩, h3⟩ := h
    have ih := findNow_str b es D (i + 1) h3
    simp only [Instr.findNow, h1, Instr.sameNow, beq_bytes, findB]
    by_cases hx : b = p
    · subst hx; simp [h2]
    · simp only [hx, decide_false, if_false]
      exact ih
section
variable {P : Program} {C : Ctx} {E : Slots} {S S' : List Ent}
variable {d ty : Nat} {ps : String} {af : Array Edge} {g0 : Option (Nat × Bool)} {x y m : Operand} {t k e g : Nat} {b : ByteArray}
theorem run_checkStr [hm : MapStr P t k e] (z : Bool) (w : World) : (Instr.checkKey z 10000 k (.string b)).run P w = .ok () w := by
  unfold Instr.checkKey
  simp [run_underlying hm.key]
theorem run_findStr [hm : MapStr P t k e] (es : List MapEntry) (D : List ByteArray) (h : es.map (fun e => (e.key, e.val)) = D.map (fun b => (Value.string b, Value.bool true))) (w : World) :
    (Instr.findKey k (.string b) es).run P w = .ok ((findB b D 0).map fun j => (j, .bool true)) w := by
  unfold Instr.findKey
  simp [run_underlying hm.key, findNow_str b es D 0 h]
theorem run_lookStr [hm : MapStr P t k e] [hz : ZeroOf P e (.bool false)] {D : List ByteArray} {w : World} (hD : SetS w g D) :
    (Instr.lookup t (.map (some g)) (.string b) false).run P w = .ok (.bool (hasB D b)) w := by
  obtain ⟨es, cl, hg, hes⟩ := hD
  have hgo : (getObj g).run P w = .ok (.map es cl) w := by simp [getObj, Sem.run, hg]
  have h1 := run_checkStr (hm := hm) (b := b) es.isEmpty w
  have h2 := run_findStr (hm := hm) (b := b) es.toList D hes w
  have h3 := findB_has b D 0
  unfold Instr.lookup
  simp only [run_underlying hm.und, Sem.run_bind, Result.andThen_ok, hgo, Sem.run_pure, h1, h2]
  cases hf : findB b D 0 with
  | none =>
    rw [hf] at h3
    simp [hz.run w, ← h3]
  | some p =>
    rw [hf] at h3
    simp [← h3]
theorem run_updateStr [hm : MapStr P t k e] {D : List ByteArray} {w : World} (hD : SetS w g D) :
    ∃ w', (Instr.mapUpdate t (.map (some g)) (.string b) (.bool true)).run P w = .ok () w' ∧ SetS w' g (addB D b) ∧ Keeps [g] w w' := by
  obtain ⟨es, cl, hg, hes⟩ := hD
  have hlt : g < w.heap.size := (Array.getElem?_eq_some_iff.1 hg).1
  have hgo : (getObj g).run P w = .ok (.map es cl) w := by simp [getObj, Sem.run, hg]
  have h1 := run_checkStr (hm := hm) (b := b) false w
  have h2 := run_findStr (hm := hm) (b := b) es.toList D hes w
  have h3 := findB_has b D 0
  have hset : ∀ o : Obj, (setObj g o).run P w = .ok () { w with heap := w.heap.setIfInBounds g o } := fun o => by simp [setObj, Sem.run, hg]
  have hk : ∀ o : Obj, Keeps [g] w { w with heap := w.heap.setIfInBounds g o } := fun o => ⟨rfl, rfl, rfl, by simp, fun j _ hj => by
    simp only [List.mem_singleton] at hj
    exact Array.getElem?_setIfInBounds_ne (fun e => hj e.symm)⟩
  have hget : ∀ o : Obj, ({ w with heap := w.heap.setIfInBounds g o } : World).heap[g]? = some o := fun o => by simp [hlt]
  unfold Instr.mapUpdate
  simp only [run_underlying hm.und, Sem.run_bind, Result.andThen_ok, hgo, h1, h2]
  cases hf : findB b D 0 with
  | none =>
    rw [hf] at h3
    simp only [Option.map_none, hset]
    refine ⟨_, rfl, ⟨_, _, hget _, ?_⟩, hk _⟩
    rw [show addB D b = D ++ [b] from if_neg (by rw [← h3]; simp)]
    simp at hes ⊢
    exact hes
  | some i =>
    rw [hf] at h3
    obtain ⟨_, hu⟩ := findB_at b D 0 i hf
    rw [Nat.sub_zero] at hu
    have hi : i < es.size := by
      have h4 := congrArg List.length hes
      have h5 := (List.getElem?_eq_some_iff.1 hu).1
      simp at h4
      omega
    have hkv : (es[i].key, es[i].val) = (Value.string b, Value.bool true) := by
      have h6 : (es.toList.map fun e => (e.key, e.val))[i]? = some (es[i].key, es[i].val) := by simp [hi]
      rw [hes] at h6
      simp only [List.getElem?_map, hu, Option.map_some, Option.some.injEq] at h6
      exact h6.symm
    have hkey : es[i].key = .string b := (Prod.mk.inj hkv).1
    have hst : (Instr.keyThatStays (.string b) (.string b)).run P w = .ok (.string b) w := by
      unfold Instr.keyThatStays
      rw [if_pos (by simp [Instr.sameBits, beq_bytes])]
      rfl
    simp only [Option.map_some, Array.getElem?_eq_getElem hi, Option.getD_some, hkey, Sem.run_bind, hst, Result.andThen_ok, hset]
    refine ⟨_, rfl, ⟨_, _, hget _, ?_⟩, hk _⟩
    rw [show addB D b = D from if_pos (by rw [← h3]; simp), ← hes]
    apply List.ext_getElem?
    intro j
    simp only [Array.toList_modify, List.getElem?_map, List.getElem?_modify]
    by_cases e : i = j
    · subst e
      have : es.toList[i]? = some es[i] := by simp [hi]
      have hval : es[i].val = .bool true := (Prod.mk.inj hkv).2
      simp [this, hkey, hval]
    · simp only [if_neg e, id_map']
theorem ES_makeSet (hd : Nat.ble (d + 1) C.n = true) : ES P C E S ⟨some d, .makeMap t none, ty, ps, af, g0⟩ (fun E' S' => ∃ g, E' = (d, .map (some g)) :: E ∧ S' = entSet g [] :: S) := by
  refine (ES_core (fun u S' => ∃ g, u = .map (some g) ∧ S' = entSet g [] :: S) (fun a w ha hw => ?_) hd).weak (by rintro _ _ ⟨_, ⟨g, rfl, rfl⟩, rfl⟩; exact ⟨g, rfl, rfl⟩)
  refine ⟨_, _, _, ?_, hw.alloc (.map #[] 0) (e := entSet w.heap.size []) (fun _ h => h) ⟨#[], 0, heap_alloc_new w _, rfl⟩, _, rfl, rfl⟩
  simp [execOp, Instr.makeMap, newObj, Sem.run]
section
variable [hm : MapStr P t k e] (hx : evo E m = some (.map (some g))) (hy : evo E x = some (.string b))
include hm hx hy
theorem QS_lookStr {D : List ByteArray} [hz : ZeroOf P e (.bool false)] (hD : entSet g D ∈ S) : QS P C E S (.lookup t m x false) ty (.bool (hasB D b)) :=
  QS.of (fun a w ha hw => by
    have h := run_lookStr (hm := hm) (b := b) (hw.holds _ hD).1
    simp only [execOp, ha.evo hx, ha.evo hy, Sem.run_bind, h, Result.andThen_ok]; rfl)
theorem ES_updateStr {D : List ByteArray} (hu : Upd S (entSet g D) (entSet g (addB D b)) S') (hv : evo E y = some (.bool true)) : ES P C E S ⟨none, .mapUpdate t m x y, ty, ps, af, g0⟩ (fun E' T => E' = E ∧ T = S') := by
  refine (ES_skip (fun T => T = S') (fun a w ha hw => ?_)).weak (by rintro _ _ ⟨rfl, rfl⟩; exact ⟨rfl, rfl⟩)
  obtain ⟨w', hr, hD', hk⟩ := run_updateStr (hm := hm) (b := b) (hw.holds _ hu.mem).1
  refine ⟨w', S', by simp [execOp, ha.evo hx, ha.evo hy, ha.evo hv, hr], ?_, rfl⟩
  refine hw.upd hu hk (by simp [entSet]) (fun k hk' => ?_) hD'
  have : some g = some k := hk'
  cases this
  obtain ⟨es, cl, hg, _⟩ := hD'
  exact ⟨(Array.getElem?_eq_some_iff.1 hg).1, .inl rfl⟩
end
/-- bytes -/
def byEnc (n : Nat) : List Value := [.int .u8 (n : Nat)]
end
end Go.Proofs.Ytiimjppceobkfaa
