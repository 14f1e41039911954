/- Lemmas for the walks (Hist8, Cau1, Fct, Bits, RelN). No condition. -/
import Derived.Test.YtbhjljnbjomnhaaG08
import Derived.Test.YtbhjljnbjomnhaaG07
import Derived.Test.YtbhjljnbjomnhaaG05
import Derived.Test.YtbhjljnbjomnhaaG01
import Derived.Laws.BitsAllLaws
set_option linter.unusedSimpArgs false
set_option linter.unusedVariables false
set_option linter.unusedSectionVars false
set_option linter.unnecessarySimpa false
namespace Go.Proofs.Ytbhjljnbjomnhaa
open Go.RowKit

theorem between_B (a b c : Int) (w : World) : Calls Try.prog 14 #[.int .i64 a, .int .i64 b, .int .i64 c] w fun e w' => e = .returned (.bool (decide (b ≤ a) && decide (a ≤ c))) ∧ Below w.heap.size w w' :=
  Calls.same_below (between_any a b c w)
theorem badT_between (t : Int) : (decide (1 ≤ t) && decide (t ≤ 5)) = !badT t := by
  rw [Bool.eq_iff_iff]
  simp [badT]
theorem Cl.enc_mk (a b c d e f g : Int) : Cl.enc ⟨a, b, c, d, e, f, g⟩ = [.int .i64 a, .int .i64 b, .int .i64 c, .int .i64 d, .int .i64 e, .int .i64 f, .int .i64 g] := rfl
set_option maxRecDepth 100000 in
theorem kinds_T (t : Int) (w : World) : Calls Try.prog 63 #[.int .i64 t] w fun e w' => ∃ A c, e = .returned (.slice A (kindsL t).length c) ∧ Own intEnc 1 3 w' w.heap.size (.slice A (kindsL t).length c) (kindsL t) ∧ Below w.heap.size w w' := by
  refine calls_T (S := []) [] Try.func63 rfl Try.ntmps63 (by simp) (Mem.nil _) ?_
  repeat' (first | ((with_reducible (first | apply TD_e2z | apply TD_e3z | apply TL_e | apply TD_e2 | apply TD_e3)); (first | exact ES.auto | ((with_reducible apply ES_storeOwn); exact rfl; exact rfl; (first | ((repeat (first | with_reducible exact Upd.here _ _ _ | with_reducible apply Upd.there)); done) | (repeat (first | exact Upd.here _ _ _ | apply Upd.there))); exact fun _ => rfl; (first | exact List.getElem?_set_self (by first | assumption | omega) | exact List.getElem?_eq_getElem (by first | assumption | omega | (simp only [List.length_set]; omega))); decide; exact Cl.enc_mk _ _ _ _ _ _ _; exact rfl)); (first | exact rfl | exact ⟨rfl, rfl, rfl⟩); (first | (rintro _ _ ⟨rfl, rfl⟩) | (rintro _ _ ⟨g, rfl, rfl⟩) | (rintro _ _ ⟨A', c', rfl, rfl⟩)); (try refine ⟨SUB, ?_⟩)) | (refine GO ?_) | (refine GOE ?_; (first | (rintro _ _ ⟨rfl, rfl⟩) | (rintro _ _ ⟨g, rfl, rfl⟩) | (rintro _ _ ⟨A', c', rfl, rfl⟩))) | ((refine GO2 ?_ ?_) <;> intro h <;> (try (repeat (first | with_reducible (replace h := of_decide_eq_true h) | with_reducible (replace h := of_decide_eq_false h) | with_reducible (replace h := bnt h) | with_reducible (replace h := bnf h) | with_reducible (replace h := Int.not_lt.mp h) | with_reducible (replace h := Int.not_le.mp h) | with_reducible (replace h := band_dec h) | with_reducible (replace h := band_decF h) | with_reducible (replace h := bor_dec h) | with_reducible (replace h := bor_decF h)))) <;> (try (exfalso; first | contradiction | omega))))
  all_goals (refine At_ret Try.results63 rfl (fun w' hw => ?_))
  all_goals try subst_vars
  all_goals first
    | exact ⟨_, _, rfl, hw.blkOut (enc := intEnc) [1, 2] rfl (by first | ((repeat (first | with_reducible exact List.mem_cons_self | with_reducible apply List.mem_cons_of_mem)); done) | (repeat (first | exact List.Mem.head _ | apply List.Mem.tail))) rfl (fun _ => rfl) (by decide), hw.below0 rfl⟩
    | exact ⟨_, _, rfl, hw.blkOut (enc := intEnc) [3, 4] rfl (by first | ((repeat (first | with_reducible exact List.mem_cons_self | with_reducible apply List.mem_cons_of_mem)); done) | (repeat (first | exact List.Mem.head _ | apply List.Mem.tail))) rfl (fun _ => rfl) (by decide), hw.below0 rfl⟩
    | exact ⟨_, _, rfl, hw.blkOut (enc := intEnc) [5, 6] rfl (by first | ((repeat (first | with_reducible exact List.mem_cons_self | with_reducible apply List.mem_cons_of_mem)); done) | (repeat (first | exact List.Mem.head _ | apply List.Mem.tail))) rfl (fun _ => rfl) (by decide), hw.below0 rfl⟩
    | exact ⟨_, _, rfl, hw.blkOut (enc := intEnc) [7, 8, 9] rfl (by first | ((repeat (first | with_reducible exact List.mem_cons_self | with_reducible apply List.mem_cons_of_mem)); done) | (repeat (first | exact List.Mem.head _ | apply List.Mem.tail))) rfl (fun _ => rfl) (by decide), hw.below0 rfl⟩
    | exact ⟨_, _, rfl, hw.blkOut (enc := intEnc) [10] rfl (by first | ((repeat (first | with_reducible exact List.mem_cons_self | with_reducible apply List.mem_cons_of_mem)); done) | (repeat (first | exact List.Mem.head _ | apply List.Mem.tail))) rfl (fun _ => rfl) (by decide), hw.below0 rfl⟩
    | (have e : kindsL t = [] := by simp [kindsL, *]
       rw [e]; exact ⟨none, 0, rfl, Own.nil _ _, hw.below0 rfl⟩)

theorem kindsL_len (t : Int) : (kindsL t).length ≤ 9223372036854775807 := by
  unfold kindsL
  repeat' split
  all_goals decide
section
variable {ts : List Int} {cs : List Cl} {i z tt : Int} {x : Ev}
theorem evR_none (hf : formBad ts x = false) (hk : x.kind = 0) (hz : openTo cs x.who cs.length = z) (h : z < 0) : evR ts cs i x = (4, cs) := by
  unfold evR; rw [if_neg (by rw [hf]; decide), if_pos hk, hz, if_pos h]
theorem evR_bad0 {c : Cl} (hf : formBad ts x = false) (hk : x.kind = 0) (hz : openTo cs x.who cs.length = z) (h : 0 ≤ z) (hc : cs.getD z.toNat default = c) (hn : ¬ (c.thing = x.thing ∧ ansB c.kind x.value = true)) : evR ts cs i x = (3, cs) := by
  unfold evR; rw [if_neg (by rw [hf]; decide), if_pos hk, hz, if_neg (by omega), hc, if_neg hn]
theorem evR_end {c : Cl} (hf : formBad ts x = false) (hk : x.kind = 0) (hz : openTo cs x.who cs.length = z) (h : 0 ≤ z) (hc : cs.getD z.toNat default = c) (hn : c.thing = x.thing ∧ ansB c.kind x.value = true) : evR ts cs i x = (0, cs.set z.toNat { c with res := x.value, to := i }) := by
  unfold evR; rw [if_neg (by rw [hf]; decide), if_pos hk, hz, if_neg (by omega), hc, if_pos hn]
theorem evR_bad1 (hf : formBad ts x = false) (hk : ¬ x.kind = 0) (ht : ts.getD x.thing.toNat 0 = tt) (h : ((kindsL tt).contains x.kind && argB x.kind x.value) = false) : evR ts cs i x = (3, cs) := by
  unfold evR; rw [if_neg (by rw [hf]; decide), if_neg hk, ht, if_pos h]
theorem evR_twice (hf : formBad ts x = false) (hk : ¬ x.kind = 0) (ht : ts.getD x.thing.toNat 0 = tt) (h1 : (kindsL tt).contains x.kind = true) (h2 : argB x.kind x.value = true) (hz : openTo cs x.who cs.length = z) (h : 0 ≤ z) : evR ts cs i x = (5, cs) := by
  unfold evR; rw [if_neg (by rw [hf]; decide), if_neg hk, ht, if_neg (by simp only [h1, h2]; decide), hz, if_pos h]
theorem evR_push (hf : formBad ts x = false) (hk : ¬ x.kind = 0) (ht : ts.getD x.thing.toNat 0 = tt) (h1 : (kindsL tt).contains x.kind = true) (h2 : argB x.kind x.value = true) (hz : openTo cs x.who cs.length = z) (h : ¬ 0 ≤ z) : evR ts cs i x = (0, cs ++ [⟨x.who, x.thing, x.kind, x.value, 0, i, -1⟩]) := by
  unfold evR; rw [if_neg (by rw [hf]; decide), if_neg hk, ht, if_neg (by simp only [h1, h2]; decide), hz, if_neg h]
theorem thing_at {t : Int} (h : t.toNat < ts.length) (hg : ts.getD t.toNat 0 = ts[t.toNat]) : ts.getD t.toNat 0 = ts[t.toNat] := hg
end
theorem callsR_types {ts : List Int} {l : List Ev} (h : typesOk ts = false) : callsR ts l = ([], 0, 1) := by simp [callsR, typesE, h]
theorem callsR_long {ts : List Int} {l : List Ev} (h : typesOk ts = true) (hl : 200 < l.length) : callsR ts l = ([], 0, 2) := by simp [callsR, typesE, h, hl]
theorem callsR_err {ts : List Int} {l : List Ev} (h : typesOk ts = true) (hl : l.length ≤ 200) {k : Nat} (hk : k < l.length) (hno : ∀ j, j < k → erR ts l j = 0) {z : Int} (he : erR ts l k = z) (hz : z ≠ 0) : callsR ts l = ([], (k : Int), z) := by
  have hf := failR_at hk hno (by rw [he]; exact hz)
  have ht : typesE ts = 0 := by simp [typesE, h]
  simp only [callsR, ht, hf]
  rw [if_neg (by simp), if_neg (by omega), if_pos hk, he]
theorem callsR_ok {ts : List Int} {l : List Ev} (h : typesOk ts = true) (hl : l.length ≤ 200) (hno : ∀ j, j < l.length → erR ts l j = 0) : callsR ts l = (stR ts l l.length, 0, 0) := by
  have hf := failR_none hno
  have ht : typesE ts = 0 := by simp [typesE, h]
  simp only [callsR, ht, hf]
  rw [if_neg (by simp), if_neg (by omega), if_neg (by omega)]
theorem all_succ {p : Nat → Prop} {k : Nat} (h : ∀ j, j < k → p j) (hk : p k) : ∀ j, j < k + 1 → p j := fun j hj => by
  by_cases e : j = k
  · rw [e]; exact hk
  · exact h j (by omega)
theorem typesOk_no {ts : List Int} {k : Nat} (hk : k < ts.length) (h : ts[k] < 1 ∨ 5 < ts[k]) : typesOk ts = false := by
  have : ts.any badT = true := List.any_eq_true.2 ⟨ts[k], List.getElem_mem hk, by simp [badT, h]⟩
  simp [typesOk, this]
set_option maxRecDepth 100000 in
set_option maxHeartbeats 2000000 in
theorem callsOf_any (T A : Option Addr) (ct c : Nat) (ts : List Int) (l : List Ev) (w : World) (hts : ts.length ≤ 9223372036854775807) (hl : l.length ≤ 9223372036854775807) (hT : RdInt w T ts) (hA : RdEv w A l) :
    Calls Try.prog 19 #[.slice T ts.length ct, .slice A l.length c] w fun e w' => ∃ A' c', e = .returned (.tuple #[.slice A' (callsR ts l).1.length c', .int .i64 (callsR ts l).2.1, .int .i64 (callsR ts l).2.2]) ∧
      Own Cl.enc 7 43 w' w.heap.size (.slice A' (callsR ts l).1.length c') (callsR ts l).1 ∧ Below w.heap.size w w' := by
  refine calls_T (S := []) [] Try.func19 rfl Try.ntmps19 (by simp) (Mem.nil _) ?_
  repeat' (first | ((with_reducible (first | apply TD_e2z | apply TD_e3z | apply TL_e | apply TD_e2 | apply TD_e3)); (first | exact ES.auto | ((with_reducible apply ES_storeOwn); exact rfl; exact rfl; (first | ((repeat (first | with_reducible exact Upd.here _ _ _ | with_reducible apply Upd.there)); done) | (repeat (first | exact Upd.here _ _ _ | apply Upd.there))); exact fun _ => rfl; (first | exact List.getElem?_set_self (by first | assumption | omega) | exact List.getElem?_eq_getElem (by first | assumption | omega | (simp only [List.length_set]; omega))); decide; exact Cl.enc_mk _ _ _ _ _ _ _; exact rfl)); (first | exact rfl | exact ⟨rfl, rfl, rfl⟩); (first | (rintro _ _ ⟨rfl, rfl⟩) | (rintro _ _ ⟨g, rfl, rfl⟩) | (rintro _ _ ⟨A', c', rfl, rfl⟩)); (try refine ⟨SUB, ?_⟩)) | (refine GO ?_) | (refine GOE ?_; (first | (rintro _ _ ⟨rfl, rfl⟩) | (rintro _ _ ⟨g, rfl, rfl⟩) | (rintro _ _ ⟨A', c', rfl, rfl⟩))) | ((refine GO2 ?_ ?_) <;> intro h <;> (try (repeat (first | with_reducible (replace h := of_decide_eq_true h) | with_reducible (replace h := of_decide_eq_false h) | with_reducible (replace h := bnt h) | with_reducible (replace h := bnf h) | with_reducible (replace h := Int.not_lt.mp h) | with_reducible (replace h := Int.not_le.mp h) | with_reducible (replace h := band_dec h) | with_reducible (replace h := band_decF h) | with_reducible (replace h := bor_dec h) | with_reducible (replace h := bor_decF h)))) <;> (try (exfalso; first | contradiction | omega))))
  refine T_loop (X := Nat) (fun k => [(17, .int .i64 (k : Nat)), (16, .int .i64 ts.length), (15, .slice T ts.length ct), (0, .slice T ts.length ct), (1, .slice A l.length c)])
    (fun _ => []) (fun k => k ≤ ts.length ∧ (ts.take k).any badT = false) (fun k => ts.length - k) 0 ⟨by omega, by simp⟩ (by (repeat (first | exact SubE.nil _ | refine SubE.cons rfl ?_))) (by exact SUBS) ?_
  rintro k ⟨hk, hno⟩
  by_cases hlt : k < ts.length
  · obtain ⟨b, o, rfl, hb0⟩ := RdE.open hT (by omega)
    repeat' (first | ((with_reducible (first | apply TD_e2z | apply TD_e3z | apply TL_e | apply TD_e2 | apply TD_e3)); (first | exact ES.auto | ((with_reducible apply ES_storeOwn); exact rfl; exact rfl; (first | ((repeat (first | with_reducible exact Upd.here _ _ _ | with_reducible apply Upd.there)); done) | (repeat (first | exact Upd.here _ _ _ | apply Upd.there))); exact fun _ => rfl; (first | exact List.getElem?_set_self (by first | assumption | omega) | exact List.getElem?_eq_getElem (by first | assumption | omega | (simp only [List.length_set]; omega))); decide; exact Cl.enc_mk _ _ _ _ _ _ _; exact rfl)); (first | exact rfl | exact ⟨rfl, rfl, rfl⟩); (first | (rintro _ _ ⟨rfl, rfl⟩) | (rintro _ _ ⟨g, rfl, rfl⟩) | (rintro _ _ ⟨A', c', rfl, rfl⟩)); (try refine ⟨SUB, ?_⟩)) | (refine GO ?_) | (refine GOE ?_; (first | (rintro _ _ ⟨rfl, rfl⟩) | (rintro _ _ ⟨g, rfl, rfl⟩) | (rintro _ _ ⟨A', c', rfl, rfl⟩))) | ((refine GO2 ?_ ?_) <;> intro h <;> (try (repeat (first | with_reducible (replace h := of_decide_eq_true h) | with_reducible (replace h := of_decide_eq_false h) | with_reducible (replace h := bnt h) | with_reducible (replace h := bnf h) | with_reducible (replace h := Int.not_lt.mp h) | with_reducible (replace h := Int.not_le.mp h) | with_reducible (replace h := band_dec h) | with_reducible (replace h := band_decF h) | with_reducible (replace h := bor_dec h) | with_reducible (replace h := bor_decF h)))) <;> (try (exfalso; first | contradiction | omega))) | ((with_reducible (first | apply TD_e2z | apply TD_e3z | apply TL_e | apply TD_e2 | apply TD_e3)); ((with_reducible apply ES_callV (f := 14)); exact rfl; (intro w hw; exact between_B _ _ _ _); exact rfl); (first | exact rfl | exact ⟨rfl, rfl, rfl⟩); (rintro _ _ ⟨rfl, rfl⟩); (try refine ⟨SUB, ?_⟩)))
    · (refine At_ret Try.results19 rfl (fun w' hw => ?_))
      rw [callsR_types (typesOk_no hlt (by omega))]
      exact ⟨none, 0, rfl, Own.nil _ _, hw.below0 rfl⟩
    · (refine At_rounds (k + 1) ?_ ?_ ?_ ?_; (exact ⟨by omega, any_take_succ' hlt hno (by simp [badT]; omega)⟩); (omega); ((repeat (first | exact SubE.nil _ | refine SubE.cons rfl ?_))); (exact SUBS))
  · obtain rfl : k = ts.length := by omega
    repeat' (first | ((with_reducible (first | apply TD_e2z | apply TD_e3z | apply TL_e | apply TD_e2 | apply TD_e3)); (first | exact ES.auto | ((with_reducible apply ES_storeOwn); exact rfl; exact rfl; (first | ((repeat (first | with_reducible exact Upd.here _ _ _ | with_reducible apply Upd.there)); done) | (repeat (first | exact Upd.here _ _ _ | apply Upd.there))); exact fun _ => rfl; (first | exact List.getElem?_set_self (by first | assumption | omega) | exact List.getElem?_eq_getElem (by first | assumption | omega | (simp only [List.length_set]; omega))); decide; exact Cl.enc_mk _ _ _ _ _ _ _; exact rfl)); (first | exact rfl | exact ⟨rfl, rfl, rfl⟩); (first | (rintro _ _ ⟨rfl, rfl⟩) | (rintro _ _ ⟨g, rfl, rfl⟩) | (rintro _ _ ⟨A', c', rfl, rfl⟩)); (try refine ⟨SUB, ?_⟩)) | (refine GO ?_) | (refine GOE ?_; (first | (rintro _ _ ⟨rfl, rfl⟩) | (rintro _ _ ⟨g, rfl, rfl⟩) | (rintro _ _ ⟨A', c', rfl, rfl⟩))) | ((refine GO2 ?_ ?_) <;> intro h <;> (try (repeat (first | with_reducible (replace h := of_decide_eq_true h) | with_reducible (replace h := of_decide_eq_false h) | with_reducible (replace h := bnt h) | with_reducible (replace h := bnf h) | with_reducible (replace h := Int.not_lt.mp h) | with_reducible (replace h := Int.not_le.mp h) | with_reducible (replace h := band_dec h) | with_reducible (replace h := band_decF h) | with_reducible (replace h := bor_dec h) | with_reducible (replace h := bor_decF h)))) <;> (try (exfalso; first | contradiction | omega))) | ((with_reducible (first | apply TD_e2z | apply TD_e3z | apply TL_e | apply TD_e2 | apply TD_e3)); ((with_reducible apply ES_callV (f := 14)); exact rfl; (intro w hw; exact between_B _ _ _ _); exact rfl); (first | exact rfl | exact ⟨rfl, rfl, rfl⟩); (rintro _ _ ⟨rfl, rfl⟩); (try refine ⟨SUB, ?_⟩)))
    · (refine At_ret Try.results19 rfl (fun w' hw => ?_))
      rw [callsR_types (by simp [typesOk]; omega)]
      exact ⟨none, 0, rfl, Own.nil _ _, hw.below0 rfl⟩
    · (refine At_ret Try.results19 rfl (fun w' hw => ?_))
      rw [callsR_long (by rw [List.take_length] at hno; simp [typesOk, hno]; omega) (by omega)]
      exact ⟨none, 0, rfl, Own.nil _ _, hw.below0 rfl⟩
    have hok : typesOk ts = true := by rw [List.take_length] at hno; simp [typesOk, hno]; omega
    have hl2 : l.length ≤ 200 := by omega
    refine T_loop (X := Nat × Option Addr × Nat)
      (fun x => [(34, .int .i64 (x.1 : Nat)), (33, .int .i64 l.length), (32, .slice A l.length c), (9, .slice x.2.1 (stR ts l x.1).length x.2.2), (0, .slice T ts.length ct)])
      (fun x => [entOwn Cl.enc 7 43 x.2.1 x.2.2 (stR ts l x.1)]) (fun x => x.1 ≤ l.length ∧ ∀ j, j < x.1 → erR ts l j = 0) (fun x => l.length - x.1) (0, none, 0)
      ⟨by simp, by simp⟩ (by (repeat (first | exact SubE.nil _ | refine SubE.cons rfl ?_))) (fun w hw => (hw.nilOwn Cl.enc 7 43).sub (by first | ((repeat (first | with_reducible exact List.nil_sublist _ | with_reducible exact List.Sublist.refl _ | with_reducible apply List.Sublist.cons_cons | with_reducible apply List.Sublist.cons)); done) | (repeat (first | exact List.nil_sublist _ | exact List.Sublist.refl _ | apply List.Sublist.cons_cons | apply List.Sublist.cons)))) ?_
    rintro ⟨k, A1, c1⟩ ⟨hk, hno2⟩
    dsimp only at hk hno2 ⊢
    have hlen2 : (stR ts l k).length ≤ k := by rw [← (run_same ts l k).1]; exact stP_len ts l k
    by_cases hlt : k < l.length
    · obtain ⟨b, o, rfl, hb0⟩ := RdE.open hA (by omega)
      have hg : l.getD k default = l[k] := by simp [hlt]
      have hst : erR ts l k = (evR ts (stR ts l k) k l[k]).1 ∧ stR ts l (k + 1) = (evR ts (stR ts l k) k l[k]).2 := by rw [← hg]; exact ⟨rfl, rfl⟩
      generalize stR ts l k = cs at hst hlen2 ⊢
      repeat' (first | ((with_reducible (first | apply TD_e2z | apply TD_e3z | apply TL_e | apply TD_e2 | apply TD_e3)); (first | exact ES.auto | ((with_reducible apply ES_storeOwn); exact rfl; exact rfl; (first | ((repeat (first | with_reducible exact Upd.here _ _ _ | with_reducible apply Upd.there)); done) | (repeat (first | exact Upd.here _ _ _ | apply Upd.there))); exact fun _ => rfl; (first | exact List.getElem?_set_self (by first | assumption | omega) | exact List.getElem?_eq_getElem (by first | assumption | omega | (simp only [List.length_set]; omega))); decide; exact Cl.enc_mk _ _ _ _ _ _ _; exact rfl)); (first | exact rfl | exact ⟨rfl, rfl, rfl⟩); (first | (rintro _ _ ⟨rfl, rfl⟩) | (rintro _ _ ⟨g, rfl, rfl⟩) | (rintro _ _ ⟨A', c', rfl, rfl⟩)); (try refine ⟨SUB, ?_⟩)) | (refine GO ?_) | (refine GOE ?_; (first | (rintro _ _ ⟨rfl, rfl⟩) | (rintro _ _ ⟨g, rfl, rfl⟩) | (rintro _ _ ⟨A', c', rfl, rfl⟩))) | ((refine GO2 ?_ ?_) <;> intro h <;> (try (repeat (first | with_reducible (replace h := of_decide_eq_true h) | with_reducible (replace h := of_decide_eq_false h) | with_reducible (replace h := bnt h) | with_reducible (replace h := bnf h) | with_reducible (replace h := Int.not_lt.mp h) | with_reducible (replace h := Int.not_le.mp h) | with_reducible (replace h := band_dec h) | with_reducible (replace h := band_decF h) | with_reducible (replace h := bor_dec h) | with_reducible (replace h := bor_decF h)))) <;> (try (exfalso; first | contradiction | omega))) | ((with_reducible (first | apply TD_e2z | apply TD_e3z | apply TL_e | apply TD_e2 | apply TD_e3)); ((with_reducible apply ES_callV (f := 14)); exact rfl; (intro w hw; exact between_B _ _ _ _); exact rfl); (first | exact rfl | exact ⟨rfl, rfl, rfl⟩); (rintro _ _ ⟨rfl, rfl⟩); (try refine ⟨SUB, ?_⟩)))
      · (refine At_ret Try.results19 rfl (fun w' hw => ?_))
        have he : (evR ts cs k l[k]).1 = 3 := by unfold evR; rw [if_pos (by simp only [formBad, Bool.or_eq_true, decide_eq_true_eq]; omega)]
        rw [callsR_err hok hl2 hlt hno2 (hst.1.trans he) (by decide)]
        exact ⟨none, 0, rfl, Own.nil _ _, hw.below0 rfl⟩
      · (refine At_ret Try.results19 rfl (fun w' hw => ?_))
        have he : (evR ts cs k l[k]).1 = 3 := by unfold evR; rw [if_pos (by simp only [formBad, Bool.or_eq_true, decide_eq_true_eq]; omega)]
        rw [callsR_err hok hl2 hlt hno2 (hst.1.trans he) (by decide)]
        exact ⟨none, 0, rfl, Own.nil _ _, hw.below0 rfl⟩
      have hff : formBad ts l[k] = false := by simp only [formBad, Bool.or_eq_false_iff, decide_eq_false_iff_not]; omega
      refine T_loop (X := Nat)
        (fun j => [(55, .int .i64 (j : Nat)), (54, .int .i64 cs.length), (53, .slice A1 cs.length c1), (12, .int .i64 (openTo cs l[k].who j)), (11, .pointer (some ⟨g, 0, none⟩)), (10, .int .i64 (k : Nat)), (34, .int .i64 (k : Nat)), (33, .int .i64 l.length), (32, .slice (some ⟨b, o, none⟩) l.length c), (9, .slice A1 cs.length c1), (0, .slice T ts.length ct)])
        (fun _ => [entBlk g 86 (Ev.enc l[k]).toArray, entOwn Cl.enc 7 43 A1 c1 cs]) (fun j => j ≤ cs.length) (fun j => cs.length - j) 0
        (by omega) (by (repeat (first | exact SubE.nil _ | refine SubE.cons rfl ?_))) (by exact SUBS) ?_
      intro j hj
      by_cases hjl : j < cs.length
      · have hgj : cs.getD j default = cs[j] := by simp [hjl]
        refine T_own (by first | ((repeat (first | with_reducible exact List.mem_cons_self | with_reducible apply List.mem_cons_of_mem)); done) | (repeat (first | exact List.Mem.head _ | apply List.Mem.tail))) (by omega) ?_
        rintro g2 rfl
        repeat' (first | ((with_reducible (first | apply TD_e2z | apply TD_e3z | apply TL_e | apply TD_e2 | apply TD_e3)); (first | exact ES.auto | ((with_reducible apply ES_storeOwn); exact rfl; exact rfl; (first | ((repeat (first | with_reducible exact Upd.here _ _ _ | with_reducible apply Upd.there)); done) | (repeat (first | exact Upd.here _ _ _ | apply Upd.there))); exact fun _ => rfl; (first | exact List.getElem?_set_self (by first | assumption | omega) | exact List.getElem?_eq_getElem (by first | assumption | omega | (simp only [List.length_set]; omega))); decide; exact Cl.enc_mk _ _ _ _ _ _ _; exact rfl)); (first | exact rfl | exact ⟨rfl, rfl, rfl⟩); (first | (rintro _ _ ⟨rfl, rfl⟩) | (rintro _ _ ⟨g, rfl, rfl⟩) | (rintro _ _ ⟨A', c', rfl, rfl⟩)); (try refine ⟨SUB, ?_⟩)) | (refine GO ?_) | (refine GOE ?_; (first | (rintro _ _ ⟨rfl, rfl⟩) | (rintro _ _ ⟨g, rfl, rfl⟩) | (rintro _ _ ⟨A', c', rfl, rfl⟩))) | ((refine GO2 ?_ ?_) <;> intro h <;> (try (repeat (first | with_reducible (replace h := of_decide_eq_true h) | with_reducible (replace h := of_decide_eq_false h) | with_reducible (replace h := bnt h) | with_reducible (replace h := bnf h) | with_reducible (replace h := Int.not_lt.mp h) | with_reducible (replace h := Int.not_le.mp h) | with_reducible (replace h := band_dec h) | with_reducible (replace h := band_decF h) | with_reducible (replace h := bor_dec h) | with_reducible (replace h := bor_decF h)))) <;> (try (exfalso; first | contradiction | omega))))
        all_goals
          refine At_rounds (j + 1) (by show j + 1 ≤ cs.length; omega) (by omega) ?_ (by exact SUBS)
          have ho : openTo cs l[k].who (j + 1) = if cs[j].who = l[k].who ∧ cs[j].to = -1 then (j : Int) else openTo cs l[k].who j := by rw [openTo, hgj]
          rw [ho]
          first | rw [if_pos ⟨‹_›, ‹_›⟩] | rw [if_neg (by intro h; simp_all)]
          (repeat (first | exact SubE.nil _ | refine SubE.cons rfl ?_))
      · obtain rfl : j = cs.length := by omega
        have hzl := openTo_lt cs l[k].who cs.length
        generalize hz : openTo cs l[k].who cs.length = z at hzl ⊢
        obtain ⟨bt, ot, rfl, hbt⟩ := RdE.open hT (by omega)
        have hzt : l[k].thing.toNat < ts.length := by omega
        have hgt : ts.getD l[k].thing.toNat 0 = ts[l[k].thing.toNat] := by simp [hzt]
        by_cases hz0 : 0 ≤ z
        · refine T_own (by first | ((repeat (first | with_reducible exact List.mem_cons_self | with_reducible apply List.mem_cons_of_mem)); done) | (repeat (first | exact List.Mem.head _ | apply List.Mem.tail))) (by omega) ?_
          rintro g2 rfl
          have hzn : z.toNat < cs.length := by omega
          have hgz : cs.getD z.toNat default = cs[z.toNat] := by simp [hzn]
          repeat' (first | ((with_reducible (first | apply TD_e2z | apply TD_e3z | apply TL_e | apply TD_e2 | apply TD_e3)); (first | exact ES.auto | ((with_reducible apply ES_storeOwn); exact rfl; exact rfl; (first | ((repeat (first | with_reducible exact Upd.here _ _ _ | with_reducible apply Upd.there)); done) | (repeat (first | exact Upd.here _ _ _ | apply Upd.there))); exact fun _ => rfl; (first | exact List.getElem?_set_self (by first | assumption | omega) | exact List.getElem?_eq_getElem (by first | assumption | omega | (simp only [List.length_set]; omega))); decide; exact Cl.enc_mk _ _ _ _ _ _ _; exact rfl)); (first | exact rfl | exact ⟨rfl, rfl, rfl⟩); (first | (rintro _ _ ⟨rfl, rfl⟩) | (rintro _ _ ⟨g, rfl, rfl⟩) | (rintro _ _ ⟨A', c', rfl, rfl⟩)); (try refine ⟨SUB, ?_⟩)) | (refine GG ?_) | (refine GE ?_; (first | (rintro _ _ ⟨rfl, rfl⟩) | (rintro _ _ ⟨g, rfl, rfl⟩) | (rintro _ _ ⟨A', c', rfl, rfl⟩)); (try refine ⟨SUB, ?_⟩)) | ((refine GO2 ?_ ?_) <;> intro h <;> (try (repeat (first | with_reducible (replace h := of_decide_eq_true h) | with_reducible (replace h := of_decide_eq_false h) | with_reducible (replace h := bnt h) | with_reducible (replace h := bnf h) | with_reducible (replace h := Int.not_lt.mp h) | with_reducible (replace h := Int.not_le.mp h) | with_reducible (replace h := band_dec h) | with_reducible (replace h := band_decF h) | with_reducible (replace h := bor_dec h) | with_reducible (replace h := bor_decF h)))) <;> (try (exfalso; first | contradiction | omega))) | (refine GOF ?_ ?_) | ((with_reducible apply T_draw (id := 27) 1000 (OT.seq [(0, 0), (0, 1), (0, 2), (0, 3), (0, 5), (1, 4), (1, 6), (0, 7), (0, 8), (0, 9), (0, 10), (0, 11), (0, 12), (0, 14), (1, 13), (1, 15), (2, 16), (0, 17), (0, 18)] .nil)); kernel_rfl; exact rfl; kernel_rfl; (repeat (first | with_reducible exact Blind.body | with_reducible apply Blind.seq | with_reducible apply Blind.block))) | ((with_reducible apply T_draw (id := 30) 1000 (OT.seq [(0, 0), (0, 1), (0, 6), (1, 2), (0, 3), (1, 4), (1, 7), (2, 5), (2, 8), (0, 9), (0, 10), (0, 11), (0, 13), (1, 12), (1, 14), (2, 15), (0, 16), (0, 17)] .nil)); kernel_rfl; exact rfl; kernel_rfl; (repeat (first | with_reducible exact Blind.body | with_reducible apply Blind.seq | with_reducible apply Blind.block))) | ((with_reducible (first | apply TD_e2z | apply TD_e3z | apply TL_e | apply TD_e2 | apply TD_e3)); ((with_reducible apply ES_callV (f := 62)); exact rfl; (intro w hw; exact Calls.same_below (answers_any _ _ _)); exact rfl); (first | exact rfl | exact ⟨rfl, rfl, rfl⟩); (rintro _ _ ⟨rfl, rfl⟩); (try refine ⟨SUB, ?_⟩)) | ((with_reducible (first | apply TD_e2z | apply TD_e3z | apply TL_e | apply TD_e2 | apply TD_e3)); ((with_reducible apply ES_callOwn (f := 63)); exact rfl; (intro w hw; exact kinds_T _ _); exact rfl); (first | exact rfl | exact ⟨rfl, rfl, rfl⟩); (rintro _ _ ⟨A, c, rfl, rfl⟩); (try refine ⟨SUB, ?_⟩)) | ((with_reducible (first | apply TD_e2z | apply TD_e3z | apply TL_e | apply TD_e2 | apply TD_e3)); ((with_reducible apply ES_callV (f := 56)); exact rfl; (intro w hw; exact contains_any _ _ (kindsL _) _ _ (kindsL_len _) (Mem.ownRd hw (by first | ((repeat (first | with_reducible exact List.mem_cons_self | with_reducible apply List.mem_cons_of_mem)); done) | (repeat (first | exact List.Mem.head _ | apply List.Mem.tail))) (fun _ => rfl))); exact rfl); (first | exact rfl | exact ⟨rfl, rfl, rfl⟩); (rintro _ _ ⟨rfl, rfl⟩); (try refine ⟨SUB, ?_⟩)) | ((with_reducible (first | apply TD_e2z | apply TD_e3z | apply TL_e | apply TD_e2 | apply TD_e3)); ((with_reducible apply ES_callV (f := 64)); exact rfl; (intro w hw; exact asks_any _ _ _); exact rfl); (first | exact rfl | exact ⟨rfl, rfl, rfl⟩); (rintro _ _ ⟨rfl, rfl⟩); (try refine ⟨SUB, ?_⟩)) | ((with_reducible (first | apply TD_e2z | apply TD_e3z | apply TL_e | apply TD_e2 | apply TD_e3)); ((with_reducible apply ES_append (enc := Cl.enc) (xs := [(⟨l[k].who, l[k].thing, l[k].kind, l[k].value, 0, k, -1⟩ : Cl)])); exact rfl; exact rfl; exact Lies.blk (by first | ((repeat (first | with_reducible exact List.mem_cons_self | with_reducible apply List.mem_cons_of_mem)); done) | (repeat (first | exact List.Mem.head _ | apply List.Mem.tail))); exact fun _ => rfl; exact fun _ => rfl; (intro A' c'; first | ((repeat (first | with_reducible exact Upd.here _ _ _ | with_reducible apply Upd.there)); done) | (repeat (first | exact Upd.here _ _ _ | apply Upd.there))); (simp; omega); decide; exact rfl); (first | exact rfl | exact ⟨rfl, rfl, rfl⟩); (rintro _ _ ⟨A', c', rfl, rfl⟩); (try refine ⟨SUB, ?_⟩)))
          · (refine At_ret Try.results19 rfl (fun w' hw => ?_))
            rw [callsR_err hok hl2 hlt hno2 (hst.1.trans (congrArg Prod.fst (evR_bad0 hff ‹_› hz hz0 hgz (fun hh => absurd hh.1 ‹_›)))) (by simp)]
            exact ⟨none, 0, rfl, Own.nil _ _, hw.below0 rfl⟩
          · (refine At_ret Try.results19 rfl (fun w' hw => ?_))
            rw [callsR_err hok hl2 hlt hno2 (hst.1.trans (congrArg Prod.fst (evR_bad0 hff ‹_› hz hz0 hgz (fun hh => absurd hh.2 (by rw [‹ansB _ _ = false›]; simp))))) (by simp)]
            exact ⟨none, 0, rfl, Own.nil _ _, hw.below0 rfl⟩
          · have hev := evR_end hff ‹_› hz hz0 hgz ⟨‹_›, ‹_›⟩ (i := k)
            rw [hev] at hst
            refine At_rounds (k + 1, some ⟨g2, 0, none⟩, c1) ⟨by show k + 1 ≤ _; omega, all_succ hno2 hst.1⟩ (by show l.length - (k + 1) < l.length - k; omega) ?_ ?_
            · simp only [hst.2, List.length_set]; (repeat (first | exact SubE.nil _ | refine SubE.cons rfl ?_))
            · simp only [hst.2]
              intro w hw
              have := hw.sub (S' := [entOwn Cl.enc 7 43 (some ⟨g2, 0, none⟩) c1 _]) (by first | ((repeat (first | with_reducible exact List.nil_sublist _ | with_reducible exact List.Sublist.refl _ | with_reducible apply List.Sublist.cons_cons | with_reducible apply List.Sublist.cons)); done) | (repeat (first | exact List.nil_sublist _ | exact List.Sublist.refl _ | apply List.Sublist.cons_cons | apply List.Sublist.cons)))
              rw [List.set_set] at this
              exact this
          · (refine At_ret Try.results19 rfl (fun w' hw => ?_))
            rw [callsR_err hok hl2 hlt hno2 (hst.1.trans (congrArg Prod.fst (evR_bad1 hff ‹_› (thing_at hzt hgt) (by rw [‹List.contains _ _ = false›]; rfl)))) (by simp)]
            exact ⟨none, 0, rfl, Own.nil _ _, hw.below0 rfl⟩
          · (refine At_ret Try.results19 rfl (fun w' hw => ?_))
            rw [callsR_err hok hl2 hlt hno2 (hst.1.trans (congrArg Prod.fst (evR_bad1 hff ‹_› (thing_at hzt hgt) (by rw [‹argB _ _ = false›]; simp)))) (by simp)]
            exact ⟨none, 0, rfl, Own.nil _ _, hw.below0 rfl⟩
          · (refine At_ret Try.results19 rfl (fun w' hw => ?_))
            rw [callsR_err hok hl2 hlt hno2 (hst.1.trans (congrArg Prod.fst (evR_twice hff ‹_› (thing_at hzt hgt) ‹_› ‹_› hz hz0))) (by simp)]
            exact ⟨none, 0, rfl, Own.nil _ _, hw.below0 rfl⟩
        · repeat' (first | ((with_reducible (first | apply TD_e2z | apply TD_e3z | apply TL_e | apply TD_e2 | apply TD_e3)); (first | exact ES.auto | ((with_reducible apply ES_storeOwn); exact rfl; exact rfl; (first | ((repeat (first | with_reducible exact Upd.here _ _ _ | with_reducible apply Upd.there)); done) | (repeat (first | exact Upd.here _ _ _ | apply Upd.there))); exact fun _ => rfl; (first | exact List.getElem?_set_self (by first | assumption | omega) | exact List.getElem?_eq_getElem (by first | assumption | omega | (simp only [List.length_set]; omega))); decide; exact Cl.enc_mk _ _ _ _ _ _ _; exact rfl)); (first | exact rfl | exact ⟨rfl, rfl, rfl⟩); (first | (rintro _ _ ⟨rfl, rfl⟩) | (rintro _ _ ⟨g, rfl, rfl⟩) | (rintro _ _ ⟨A', c', rfl, rfl⟩)); (try refine ⟨SUB, ?_⟩)) | (refine GG ?_) | (refine GE ?_; (first | (rintro _ _ ⟨rfl, rfl⟩) | (rintro _ _ ⟨g, rfl, rfl⟩) | (rintro _ _ ⟨A', c', rfl, rfl⟩)); (try refine ⟨SUB, ?_⟩)) | ((refine GO2 ?_ ?_) <;> intro h <;> (try (repeat (first | with_reducible (replace h := of_decide_eq_true h) | with_reducible (replace h := of_decide_eq_false h) | with_reducible (replace h := bnt h) | with_reducible (replace h := bnf h) | with_reducible (replace h := Int.not_lt.mp h) | with_reducible (replace h := Int.not_le.mp h) | with_reducible (replace h := band_dec h) | with_reducible (replace h := band_decF h) | with_reducible (replace h := bor_dec h) | with_reducible (replace h := bor_decF h)))) <;> (try (exfalso; first | contradiction | omega))) | (refine GOF ?_ ?_) | ((with_reducible apply T_draw (id := 27) 1000 (OT.seq [(0, 0), (0, 1), (0, 2), (0, 3), (0, 5), (1, 4), (1, 6), (0, 7), (0, 8), (0, 9), (0, 10), (0, 11), (0, 12), (0, 14), (1, 13), (1, 15), (2, 16), (0, 17), (0, 18)] .nil)); kernel_rfl; exact rfl; kernel_rfl; (repeat (first | with_reducible exact Blind.body | with_reducible apply Blind.seq | with_reducible apply Blind.block))) | ((with_reducible apply T_draw (id := 30) 1000 (OT.seq [(0, 0), (0, 1), (0, 6), (1, 2), (0, 3), (1, 4), (1, 7), (2, 5), (2, 8), (0, 9), (0, 10), (0, 11), (0, 13), (1, 12), (1, 14), (2, 15), (0, 16), (0, 17)] .nil)); kernel_rfl; exact rfl; kernel_rfl; (repeat (first | with_reducible exact Blind.body | with_reducible apply Blind.seq | with_reducible apply Blind.block))) | ((with_reducible (first | apply TD_e2z | apply TD_e3z | apply TL_e | apply TD_e2 | apply TD_e3)); ((with_reducible apply ES_callV (f := 62)); exact rfl; (intro w hw; exact Calls.same_below (answers_any _ _ _)); exact rfl); (first | exact rfl | exact ⟨rfl, rfl, rfl⟩); (rintro _ _ ⟨rfl, rfl⟩); (try refine ⟨SUB, ?_⟩)) | ((with_reducible (first | apply TD_e2z | apply TD_e3z | apply TL_e | apply TD_e2 | apply TD_e3)); ((with_reducible apply ES_callOwn (f := 63)); exact rfl; (intro w hw; exact kinds_T _ _); exact rfl); (first | exact rfl | exact ⟨rfl, rfl, rfl⟩); (rintro _ _ ⟨A, c, rfl, rfl⟩); (try refine ⟨SUB, ?_⟩)) | ((with_reducible (first | apply TD_e2z | apply TD_e3z | apply TL_e | apply TD_e2 | apply TD_e3)); ((with_reducible apply ES_callV (f := 56)); exact rfl; (intro w hw; exact contains_any _ _ (kindsL _) _ _ (kindsL_len _) (Mem.ownRd hw (by first | ((repeat (first | with_reducible exact List.mem_cons_self | with_reducible apply List.mem_cons_of_mem)); done) | (repeat (first | exact List.Mem.head _ | apply List.Mem.tail))) (fun _ => rfl))); exact rfl); (first | exact rfl | exact ⟨rfl, rfl, rfl⟩); (rintro _ _ ⟨rfl, rfl⟩); (try refine ⟨SUB, ?_⟩)) | ((with_reducible (first | apply TD_e2z | apply TD_e3z | apply TL_e | apply TD_e2 | apply TD_e3)); ((with_reducible apply ES_callV (f := 64)); exact rfl; (intro w hw; exact asks_any _ _ _); exact rfl); (first | exact rfl | exact ⟨rfl, rfl, rfl⟩); (rintro _ _ ⟨rfl, rfl⟩); (try refine ⟨SUB, ?_⟩)) | ((with_reducible (first | apply TD_e2z | apply TD_e3z | apply TL_e | apply TD_e2 | apply TD_e3)); ((with_reducible apply ES_append (enc := Cl.enc) (xs := [(⟨l[k].who, l[k].thing, l[k].kind, l[k].value, 0, k, -1⟩ : Cl)])); exact rfl; exact rfl; exact Lies.blk (by first | ((repeat (first | with_reducible exact List.mem_cons_self | with_reducible apply List.mem_cons_of_mem)); done) | (repeat (first | exact List.Mem.head _ | apply List.Mem.tail))); exact fun _ => rfl; exact fun _ => rfl; (intro A' c'; first | ((repeat (first | with_reducible exact Upd.here _ _ _ | with_reducible apply Upd.there)); done) | (repeat (first | exact Upd.here _ _ _ | apply Upd.there))); (simp; omega); decide; exact rfl); (first | exact rfl | exact ⟨rfl, rfl, rfl⟩); (rintro _ _ ⟨A', c', rfl, rfl⟩); (try refine ⟨SUB, ?_⟩)))
          · (refine At_ret Try.results19 rfl (fun w' hw => ?_))
            rw [callsR_err hok hl2 hlt hno2 (hst.1.trans (congrArg Prod.fst (evR_none hff ‹_› hz (by omega)))) (by simp)]
            exact ⟨none, 0, rfl, Own.nil _ _, hw.below0 rfl⟩
          · (refine At_ret Try.results19 rfl (fun w' hw => ?_))
            rw [callsR_err hok hl2 hlt hno2 (hst.1.trans (congrArg Prod.fst (evR_bad1 hff ‹_› (thing_at hzt hgt) (by rw [‹List.contains _ _ = false›]; rfl)))) (by simp)]
            exact ⟨none, 0, rfl, Own.nil _ _, hw.below0 rfl⟩
          · (refine At_ret Try.results19 rfl (fun w' hw => ?_))
            rw [callsR_err hok hl2 hlt hno2 (hst.1.trans (congrArg Prod.fst (evR_bad1 hff ‹_› (thing_at hzt hgt) (by rw [‹argB _ _ = false›]; simp)))) (by simp)]
            exact ⟨none, 0, rfl, Own.nil _ _, hw.below0 rfl⟩
          · have hev := evR_push hff ‹_› (thing_at hzt hgt) ‹_› ‹_› hz (by omega) (i := k)
            rw [hev] at hst
            refine At_rounds (k + 1, A', c') ⟨by show k + 1 ≤ _; omega, all_succ hno2 hst.1⟩ (by show l.length - (k + 1) < l.length - k; omega) ?_ ?_
            · simp only [hst.2]; (repeat (first | exact SubE.nil _ | refine SubE.cons rfl ?_))
            · simp only [hst.2]; exact SUBS
    · obtain rfl : k = l.length := by omega
      repeat' (first | ((with_reducible (first | apply TD_e2z | apply TD_e3z | apply TL_e | apply TD_e2 | apply TD_e3)); (first | exact ES.auto | ((with_reducible apply ES_storeOwn); exact rfl; exact rfl; (first | ((repeat (first | with_reducible exact Upd.here _ _ _ | with_reducible apply Upd.there)); done) | (repeat (first | exact Upd.here _ _ _ | apply Upd.there))); exact fun _ => rfl; (first | exact List.getElem?_set_self (by first | assumption | omega) | exact List.getElem?_eq_getElem (by first | assumption | omega | (simp only [List.length_set]; omega))); decide; exact Cl.enc_mk _ _ _ _ _ _ _; exact rfl)); (first | exact rfl | exact ⟨rfl, rfl, rfl⟩); (first | (rintro _ _ ⟨rfl, rfl⟩) | (rintro _ _ ⟨g, rfl, rfl⟩) | (rintro _ _ ⟨A', c', rfl, rfl⟩)); (try refine ⟨SUB, ?_⟩)) | (refine GO ?_) | (refine GOE ?_; (first | (rintro _ _ ⟨rfl, rfl⟩) | (rintro _ _ ⟨g, rfl, rfl⟩) | (rintro _ _ ⟨A', c', rfl, rfl⟩))) | ((refine GO2 ?_ ?_) <;> intro h <;> (try (repeat (first | with_reducible (replace h := of_decide_eq_true h) | with_reducible (replace h := of_decide_eq_false h) | with_reducible (replace h := bnt h) | with_reducible (replace h := bnf h) | with_reducible (replace h := Int.not_lt.mp h) | with_reducible (replace h := Int.not_le.mp h) | with_reducible (replace h := band_dec h) | with_reducible (replace h := band_decF h) | with_reducible (replace h := bor_dec h) | with_reducible (replace h := bor_decF h)))) <;> (try (exfalso; first | contradiction | omega))))
      (refine At_ret Try.results19 rfl (fun w' hw => ?_))
      rw [callsR_ok hok hl2 hno2]
      exact ⟨A1, c1, rfl, hw.ownOut rfl (by first | ((repeat (first | with_reducible exact List.mem_cons_self | with_reducible apply List.mem_cons_of_mem)); done) | (repeat (first | exact List.Mem.head _ | apply List.Mem.tail))), hw.below0 rfl⟩
end Go.Proofs.Ytbhjljnbjomnhaa

namespace Go.Proofs.Ytbhjljnbjomnhaa
open Go.RowKit

theorem callsCode_any (A B : Option Addr) (c d : Nat) (ts : List Int) (l : List Ev) (w : World) (hts : ts.length ≤ 9223372036854775807) (hl : l.length ≤ 9223372036854775807) (hT : RdInt w A ts) (hA : RdEv w B l) :
    Calls Try.prog 98 #[.slice A ts.length c, .slice B l.length d] w fun e w' => ∃ A' c', e = .returned (.tuple #[.slice A' (callsR ts l).1.length c', .int .i64 (callsR ts l).2.1, .int .i64 (callsR ts l).2.2]) ∧
      Own Cl.enc 7 43 w' w.heap.size (.slice A' (callsR ts l).1.length c') (callsR ts l).1 ∧ Below w.heap.size w w' := by
  rw [← calls_same]
  exact calls_any A B c d ts l w hts hl hT hA
theorem callsR_len (ts : List Int) (l : List Ev) : (callsR ts l).1.length ≤ 200 := by
  unfold callsR
  split
  · simp
  · split
    · simp
    · split
      · simp
      · have := stP_len ts l l.length
        rw [(run_same ts l l.length).1] at this
        show (stR ts l l.length).length ≤ 200
        omega
/-- what is so of each call that a reading keeps -/
structure ClOk (ts : List Int) (i : Int) (c : Cl) : Prop where
  who : 0 ≤ c.who ∧ c.who < 8
  thing : 0 ≤ c.thing ∧ c.thing < ts.length
  kind : (kindsL (ts.getD c.thing.toNat 0)).contains c.kind = true
  arg : argB c.kind c.arg = true
  place : 0 ≤ c.from_ ∧ c.from_ < i
structure ClsOk (ts : List Int) (i : Int) (cs : List Cl) : Prop where
  each : ∀ q (h : q < cs.length), ClOk ts i cs[q]
  rising : ∀ p q (h1 : p < q) (h : q < cs.length), cs[p].from_ < cs[q].from_
theorem ClOk.mono {ts : List Int} {i j : Int} {c : Cl} (h : ClOk ts i c) (hij : i ≤ j) : ClOk ts j c := ⟨h.who, h.thing, h.kind, h.arg, by have := h.place; omega⟩
theorem clsOk_step {ts : List Int} {i : Int} {cs : List Cl} (x : Ev) (hi : 0 ≤ i) (h : ClsOk ts i cs) : ClsOk ts (i + 1) (evR ts cs i x).2 := by
  have keep : ClsOk ts (i + 1) cs := ⟨fun q hq => (h.each q hq).mono (by omega), h.rising⟩
  unfold evR
  by_cases hf : formBad ts x = true
  · rw [if_pos hf]; exact keep
  · rw [if_neg hf]
    have hf' : formBad ts x = false := by simpa using hf
    by_cases hk : x.kind = 0
    · rw [if_pos hk]
      split
      · exact keep
      · split
        · rename_i hz hc
          obtain ⟨m, hm⟩ : ∃ m, (openTo cs x.who cs.length).toNat = m := ⟨_, rfl⟩
          have hlt := openTo_lt cs x.who cs.length
          have hml : m < cs.length := by omega
          rw [hm]
          have hd : cs.getD m default = cs[m] := by simp [hml]
          rw [hd]
          dsimp only
          refine ⟨fun q hq => ?_, fun p q hpq hq => ?_⟩
          · have hq' : q < cs.length := by simpa using hq
            have hc' := keep.each q hq'
            rw [List.getElem_set]
            split
            · rename_i e
              subst e
              exact ⟨hc'.who, hc'.thing, hc'.kind, hc'.arg, hc'.place⟩
            · exact hc'
          · have hq' : q < cs.length := by simpa using hq
            have hr := h.rising p q hpq hq'
            rw [List.getElem_set, List.getElem_set]
            split <;> split <;> (subst_vars; first | exact hr | omega)
        · exact keep
    · rw [if_neg hk]
      split
      · exact keep
      · split
        · exact keep
        · rename_i hb _
          simp only [formBad, Bool.or_eq_false_iff, decide_eq_false_iff_not] at hf'
          have hb' : ((kindsL (ts.getD x.thing.toNat 0)).contains x.kind && argB x.kind x.value) = true := by simpa using hb
          rw [Bool.and_eq_true] at hb'
          dsimp only
          refine ⟨fun q hq => ?_, fun p q hpq hq => ?_⟩
          · by_cases e : q < cs.length
            · rw [List.getElem_append_left e]; exact keep.each q e
            · rw [List.getElem_append_right (by omega)]
              simp only [List.getElem_singleton]
              exact ⟨by dsimp only; omega, by dsimp only; omega, hb'.1, hb'.2, by dsimp only; omega⟩
          · simp only [List.length_append, List.length_cons, List.length_nil] at hq
            by_cases e : q < cs.length
            · rw [List.getElem_append_left e, List.getElem_append_left (by omega)]; exact h.rising p q hpq e
            · rw [List.getElem_append_left (show p < cs.length by omega), List.getElem_append_right (by omega)]
              simp only [List.getElem_singleton]
              have := (h.each p (by omega)).place
              omega
theorem clsOk_st (ts : List Int) (l : List Ev) : ∀ k : Nat, ClsOk ts (k : Int) (stR ts l k)
  | 0 => ⟨fun q h => by simp [stR] at h, fun p q _ h => by simp [stR] at h⟩
  | k + 1 => by
    have := clsOk_step (ts := ts) (i := k) (l.getD k default) (by omega) (clsOk_st ts l k)
    rw [stR]
    exact this
/-- the calls that a reading gives -/
theorem callsR_inv {ts : List Int} {l : List Ev} (h : (callsR ts l).2.2 = 0) : typesOk ts = true ∧ l.length ≤ 200 ∧ (∀ j, j < l.length → erR ts l j = 0) ∧ (callsR ts l).1 = stR ts l l.length := by
  by_cases h1 : typesOk ts = true
  · by_cases h2 : 200 < l.length
    · rw [callsR_long h1 h2] at h; cases h
    · rcases Nat.lt_or_ge (failR ts l) l.length with hf | hf
      · exfalso
        have hk : ∃ k, k < l.length ∧ (∀ j, j < k → erR ts l j = 0) ∧ erR ts l k ≠ 0 := by
          unfold failR at hf
          cases hc : (List.range l.length).find? fun k => decide (erR ts l k ≠ 0) with
          | none => rw [hc] at hf; simp at hf
          | some k =>
            rw [List.find?_range_eq_some] at hc
            exact ⟨k, by simpa using hc.2.1, fun j hj => by simpa using hc.2.2 j hj, by simpa using hc.1⟩
        obtain ⟨k, a, b, c⟩ := hk
        rw [callsR_err h1 (by omega) a b rfl c] at h
        exact c h
      · have hall : ∀ j, j < l.length → erR ts l j = 0 := by
          intro j hj
          refine Decidable.byContradiction fun hn => ?_
          unfold failR at hf
          cases hc : (List.range l.length).find? fun k => decide (erR ts l k ≠ 0) with
          | none =>
            rw [List.find?_eq_none] at hc
            have := hc j (by simpa using hj)
            simp only [decide_eq_true_eq] at this
            exact this hn
          | some k =>
            rw [hc] at hf
            rw [List.find?_range_eq_some] at hc
            have h3 : k < l.length := by simpa using hc.2.1
            simp at hf
            omega
        refine ⟨h1, by omega, hall, ?_⟩
        rw [callsR_ok h1 (by omega) hall]
  · rw [callsR_types (by simpa using h1)] at h; cases h
/-- the same value written twice to one -/
def dupB (x y : Cl) : Bool := decide (x.kind = 1) && (decide (y.kind = 1) && (decide (x.thing = y.thing) && decide (x.arg = y.arg)))
theorem dupB_symm (x y : Cl) : dupB x y = dupB y x := by
  rw [Bool.eq_iff_iff]
  simp only [dupB, Bool.and_eq_true, decide_eq_true_eq]
  constructor <;> (rintro ⟨a, b, c, d⟩; exact ⟨b, a, c.symm, d.symm⟩)
def regsOk (ts : List Int) : Prop := ∀ j (h : j < ts.length), ts[j] = 1
def callOk (cs : List Cl) (i : Nat) : Prop := ∀ h : i < cs.length, cs[i].to ≠ -1 ∧ ∀ j (hj : j < i), dupB cs[i] cs[j] = false
def goodC (ts : List Int) (cs : List Cl) : Prop := regsOk ts ∧ ∀ i, i < cs.length → callOk cs i
open Classical in
noncomputable def fewR (ts : List Int) (l : List Ev) : List Cl × Int :=
  if (callsR ts l).2.2 ≠ 0 then ([], (callsR ts l).2.2)
  else if ¬ goodC ts (callsR ts l).1 then ([], 6)
  else if 7 < (callsR ts l).1.length then ([], 2)
  else ((callsR ts l).1, 0)
theorem fewR_err {ts : List Int} {l : List Ev} {e : Int} (h : (callsR ts l).2.2 = e) (hn : ¬ e = 0) : fewR ts l = ([], e) := by
  unfold fewR; rw [if_pos (by rw [h]; exact hn), h]
theorem fewR_class {ts : List Int} {l : List Ev} {cs : List Cl} {k : Int} (h : callsR ts l = (cs, k, 0)) (hn : ¬ goodC ts cs) : fewR ts l = ([], 6) := by
  unfold fewR; rw [if_neg (by rw [h]; simp), h]; dsimp only; rw [if_pos hn]
theorem fewR_large {ts : List Int} {l : List Ev} {cs : List Cl} {k : Int} (h : callsR ts l = (cs, k, 0)) (hn : goodC ts cs) (h7 : 7 < cs.length) : fewR ts l = ([], 2) := by
  unfold fewR; rw [if_neg (by rw [h]; simp), h]; dsimp only; rw [if_neg (by simpa using hn), if_pos h7]
theorem fewR_ok {ts : List Int} {l : List Ev} {cs : List Cl} {k : Int} (h : callsR ts l = (cs, k, 0)) (hn : goodC ts cs) (h7 : ¬ 7 < cs.length) : fewR ts l = (cs, 0) := by
  unfold fewR; rw [if_neg (by rw [h]; simp), h]; dsimp only; rw [if_neg (by simpa using hn), if_neg h7]
/-- what the calls are, where there are few -/
structure Few (cs : List Cl) : Prop where
  len : cs.length ≤ 7
  who : ∀ q (h : q < cs.length), 0 ≤ cs[q].who ∧ cs[q].who < 8
  thing : ∀ q (h : q < cs.length), 0 ≤ cs[q].thing ∧ cs[q].thing < 4
  kind : ∀ q (h : q < cs.length), cs[q].kind = 1 ∨ cs[q].kind = 2
  rising : ∀ p q (h1 : p < q) (h : q < cs.length), cs[p].from_ < cs[q].from_
theorem few_of {ts : List Int} {l : List Ev} (h : (fewR ts l).2 = 0) : Few (fewR ts l).1 := by
  by_cases h0 : (callsR ts l).2.2 = 0
  · obtain ⟨cs, k, z, hc⟩ : ∃ cs k z, callsR ts l = (cs, k, z) := ⟨_, _, _, rfl⟩
    have hz : z = 0 := by rw [hc] at h0; exact h0
    subst hz
    obtain ⟨t1, _, _, t4⟩ := callsR_inv h0
    by_cases hg : goodC ts cs
    · by_cases h7 : 7 < cs.length
      · rw [fewR_large hc hg h7] at h; cases h
      · rw [fewR_ok hc hg h7]
        dsimp only
        have hcs : cs = stR ts l l.length := by rw [hc] at t4; exact t4
        have hI := clsOk_st ts l l.length
        rw [← hcs] at hI
        have hlen : ts.length ≤ 4 := by
          unfold typesOk at t1
          simp only [Bool.and_eq_true, decide_eq_true_eq] at t1
          exact t1.1.2
        refine ⟨by omega, fun q hq => (hI.each q hq).who, fun q hq => ?_, fun q hq => ?_, hI.rising⟩
        · have := (hI.each q hq).thing; omega
        · have hk := (hI.each q hq).kind
          have ht := (hI.each q hq).thing
          have e : ts.getD cs[q].thing.toNat 0 = 1 := by
            rw [List.getD_eq_getElem?_getD, List.getElem?_eq_getElem (by omega)]
            exact hg.1 _ _
          rw [e] at hk
          simp [kindsL] at hk
          exact hk
    · rw [fewR_class hc hg] at h; cases h
  · rw [fewR_err rfl h0] at h
    exact absurd h h0
end Go.Proofs.Ytbhjljnbjomnhaa

namespace Go.Proofs.Ytbhjljnbjomnhaa
open Go.RowKit

theorem Own.facts {α : Type} {enc : α → List Value} {M e : Nat} {w : World} {B n c : Nat} {A : Option Addr} {ls : List α} (h : Own enc M e w B (.slice A n c) ls) : ls.length ≤ c ∧ (A = none → c = 0) := by
  rcases h.2 with ⟨hv, h0⟩ | ⟨g, cap, cur, hv, _, _, hn, _⟩
  · simp only [Value.slice.injEq] at hv
    obtain ⟨rfl, -, rfl⟩ := hv
    exact ⟨by omega, fun _ => rfl⟩
  · simp only [Value.slice.injEq] at hv
    obtain ⟨rfl, -, rfl⟩ := hv
    exact ⟨hn, fun h => by cases h⟩
theorem T_fact {P : Program} {C : Ctx} {Q : Exit → Act → World → Prop} {E : Slots} {S : List Ent} {code : Code} {p : Prop} (hS : ∀ w, Mem C w S → p) (h : p → T P C code Q E S) : T P C code Q E S :=
  ⟨fun a w ha hw => (h (hS w hw)).run a w ha hw⟩
theorem Mem.ownFacts {α : Type} {enc : α → List Value} {M et c : Nat} {A : Option Addr} {ls : List α} {C : Ctx} {S : List Ent} {w : World} (hw : Mem C w S) (hm : entOwn enc M et A c ls ∈ S) : ls.length ≤ c ∧ (A = Option.none → c = 0) :=
  Own.facts (show Own enc M et w 0 (.slice A ls.length c) ls from (hw.holds _ hm).1)
theorem Mem.widen {n : Nat} {F F' : List Nat} {w w' : World} {S : List Ent} (h : Mem ⟨n, F, w⟩ w' S) (hF : ∀ g ∈ F, g ∈ F') : Mem ⟨n, F', w⟩ w' S :=
  ⟨⟨h.keeps.os, h.keeps.tape, h.keeps.output, h.keeps.size, fun k hk hn => h.keeps.block k hk fun hm => hn (hF k hm)⟩, fun e he => ⟨(h.holds e he).1, fun g hg => ⟨((h.holds e he).2 g hg).1, ((h.holds e he).2 g hg).2.imp (hF g) id⟩⟩, h.apart⟩
theorem Mem.ofOwn {α : Type} {enc : α → List Value} {M et : Nat} {ls : List α} {A : Option Addr} {c : Nat} {w w' : World} (hb : Below w.heap.size w w') (ho : Own enc M et w' w.heap.size (.slice A ls.length c) ls) : Mem ⟨0, [], w⟩ w' [entOwn enc M et A c ls] :=
  (Mem.nil ⟨0, [], w⟩).fresh (e := entOwn enc M et A c ls) hb (fun g hg => World.ownsRow.lt ho g hg) ho.base
end Go.Proofs.Ytbhjljnbjomnhaa

namespace Go.Proofs.Ytbhjljnbjomnhaa
theorem upd_upd (f : Nat → Nat) (i a b : Nat) : upd (upd f i a) i b = upd f i b := by
  funext j; by_cases h : j = i <;> simp [upd, h]
theorem upd_same (f : Nat → Nat) (i a : Nat) : upd f i a i = a := by simp [upd]
theorem pow_lt_16 {m : Nat} (h : m < 16) : 2 ^ m < 65536 := by
  have := Nat.pow_lt_pow_right (a := 2) (by omega) h
  simpa using this
theorem bitsTo_lt_16 (p : Nat → Bool) {m : Nat} (h : m ≤ 16) : bitsTo p m < 65536 := by
  have h1 := bitsTo_lt p m
  have h2 := Nat.pow_le_pow_right (n := 2) (by omega) h
  have : (2 : Nat) ^ 16 = 65536 := by decide
  omega
theorem or_pow (p : Nat → Bool) (m : Nat) : bitsTo p m ||| 2 ^ m = bitsTo p m + 2 ^ m := by
  have := Nat.two_pow_add_eq_or_of_lt (bitsTo_lt p m) 1
  simp only [Nat.mul_one] at this
  rw [Nat.or_comm, ← this, Nat.add_comm]
theorem wrap_pow {m : Nat} (h : m < 16) : IntKind.u16.wrap (2 ^ m) = ((2 ^ m : Nat) : Int) := by
  have := pow_lt_16 h
  have e : ((2 : Int) ^ m) = ((2 ^ m : Nat) : Int) := by simp
  rw [IntKind.wrap_u16, e]
  generalize 2 ^ m = x at *
  omega
theorem or_bit (p : Nat → Bool) {m : Nat} (h : m < 16) (hp : p m = true) : bits BinOp.or IntKind.u16 (bitsTo p m : Nat) (IntKind.u16.wrap (2 ^ m)) = ((bitsTo p (m + 1) : Nat) : Int) := by
  rw [wrap_pow h, u16_or_nat _ _ (bitsTo_lt_16 p (by omega)) (pow_lt_16 h), or_pow]
  simp [bitsTo, hp]
theorem add_bit (p : Nat → Bool) {m : Nat} (h : m < 15) (hp : p m = true) : IntKind.u16.wrap ((bitsTo p m : Nat) + IntKind.u16.wrap (2 ^ m)) = ((bitsTo p (m + 1) : Nat) : Int) := by
  have := bitsTo_lt_16 p (m := m + 1) (by omega)
  rw [wrap_pow (by omega), IntKind.wrap_u16]
  simp only [bitsTo, hp, if_true] at this ⊢
  generalize 2 ^ m = x at *
  generalize bitsTo p m = y at *
  omega


end Go.Proofs.Ytbhjljnbjomnhaa

namespace Go.Proofs.Ytbhjljnbjomnhaa

def orP (P Q : Nat → Nat → Bool) (k m : Nat) (i j : Nat) : Bool := P i j || (Q i j && (decide (i < k) || (decide (i = k) && decide (j < m))))
def relN (R : Nat → Nat → Bool) (n : Nat) : Nat → Nat := fun i => if i < n then bitsTo (R i) n else 0
theorem bitsTo_same {p q : Nat → Bool} : ∀ {n : Nat}, (∀ j, j < n → p j = q j) → bitsTo p n = bitsTo q n
  | 0, _ => rfl
  | n + 1, h => by rw [bitsTo, bitsTo, bitsTo_same (fun j hj => h j (by omega)), h n (by omega)]
theorem bitsTo_off {p : Nat → Bool} : ∀ {n : Nat}, (∀ j, j < n → p j = false) → bitsTo p n = 0
  | 0, _ => rfl
  | n + 1, h => by rw [bitsTo, bitsTo_off (fun j hj => h j (by omega)), h n (by omega)]; rfl
theorem relN_congr {R R' : Nat → Nat → Bool} {n : Nat} (h : ∀ i j, i < n → j < n → R i j = R' i j) : relN R n = relN R' n := by
  funext i
  unfold relN
  by_cases hi : i < n
  · rw [if_pos hi, if_pos hi]; exact bitsTo_same fun j hj => h i j hi hj
  · rw [if_neg hi, if_neg hi]
theorem relN_0 (n : Nat) : relN (fun _ _ => false) n = fun _ => 0 := by
  funext i
  unfold relN
  split
  · exact bitsTo_off fun _ _ => rfl
  · rfl
theorem bitsTo_or {p q : Nat → Bool} {n m : Nat} (hm : m < n) (hq : ∀ j, j < n → q j = (p j || decide (j = m))) : bitsTo p n ||| 2 ^ m = bitsTo q n := by
  apply Nat.eq_of_testBit_eq
  intro j
  rw [Nat.testBit_or, bitsTo_testBit, bitsTo_testBit, Nat.testBit_two_pow]
  by_cases hj : j < n
  · rw [decide_eq_true hj, hq j hj]
    by_cases e : j = m
    · subst e; simp
    · rw [decide_eq_false e, decide_eq_false (fun h => e h.symm)]; simp
  · rw [decide_eq_false hj, decide_eq_false (show ¬ m = j by omega)]; rfl
theorem bitsTo_add {p q : Nat → Bool} {m : Nat} (hp : p m = false) : ∀ {n : Nat}, m < n → (∀ j, j < n → q j = (p j || decide (j = m))) → bitsTo p n + 2 ^ m = bitsTo q n
  | 0, h, _ => by omega
  | n + 1, hm, hq => by
    rw [bitsTo, bitsTo]
    have hn := hq n (by omega)
    by_cases e : n = m
    · subst e
      have h1 : bitsTo q n = bitsTo p n := bitsTo_same fun j hj => by rw [hq j (by omega), decide_eq_false (show ¬ j = n by omega)]; simp
      rw [h1, hn, hp, decide_eq_true rfl]; simp
    · have ih := bitsTo_add hp (n := n) (by omega) (fun j hj => hq j (by omega))
      rw [hn, decide_eq_false e, Bool.or_false]
      omega
section
variable {P Q : Nat → Nat → Bool} {n k m : Nat}
theorem orP_0 : orP P Q 0 0 = P := by
  funext i j
  unfold orP
  rw [decide_eq_false (show ¬ i < 0 by omega), decide_eq_false (show ¬ j < 0 by omega)]; simp
theorem relN_next : relN (orP P Q k n) n = relN (orP P Q (k + 1) 0) n := relN_congr fun i j hi hj => by
  unfold orP
  rw [decide_eq_true hj, decide_eq_false (show ¬ j < 0 by omega), Bool.and_true, Bool.and_false, Bool.or_false]
  congr 2
  rw [Bool.eq_iff_iff]; simp; omega
theorem relN_done : relN (orP P Q n 0) n = relN (fun i j => P i j || Q i j) n := relN_congr fun i j hi hj => by
  unfold orP
  rw [decide_eq_true hi]; simp
theorem orP_step (j : Nat) : orP P Q k (m + 1) k j = (orP P Q k m k j || (Q k m && decide (j = m))) := by
  unfold orP
  by_cases e : j = m
  · subst e
    rw [decide_eq_true (show j < j + 1 by omega), decide_eq_false (show ¬ j < j by omega)]; simp
  · rw [decide_eq_false e]
    have : decide (j < m + 1) = decide (j < m) := by rw [Bool.eq_iff_iff]; simp; omega
    rw [this]; simp
theorem orP_else {i : Nat} (h : i ≠ k) (m' j : Nat) : orP P Q k m i j = orP P Q k m' i j := by
  unfold orP; rw [decide_eq_false h]; simp
theorem relN_yes (hk : k < n) (hm : m < n) (h : Q k m = true) : upd (relN (orP P Q k m) n) k (relN (orP P Q k m) n k ||| 2 ^ m) = relN (orP P Q k (m + 1)) n := by
  funext i
  unfold upd relN
  by_cases e : i = k
  · subst e
    rw [if_pos rfl, if_pos hk, if_pos hk]
    exact bitsTo_or hm fun j _ => by rw [orP_step, h, Bool.true_and]
  · rw [if_neg e]
    split
    · exact bitsTo_same fun j _ => orP_else e _ _
    · rfl
theorem relN_add (hk : k < n) (hm : m < n) (h : Q k m = true) (hp : P k m = false) : upd (relN (orP P Q k m) n) k (relN (orP P Q k m) n k + 2 ^ m) = relN (orP P Q k (m + 1)) n := by
  funext i
  unfold upd relN
  by_cases e : i = k
  · subst e
    rw [if_pos rfl, if_pos hk, if_pos hk]
    exact bitsTo_add (by unfold orP; rw [hp]; simp) hm fun j _ => by rw [orP_step, h, Bool.true_and]
  · rw [if_neg e]
    split
    · exact bitsTo_same fun j _ => orP_else e _ _
    · rfl
theorem relN_no (h : Q k m = false) : relN (orP P Q k m) n = relN (orP P Q k (m + 1)) n := relN_congr fun i j hi hj => by
  by_cases e : i = k
  · subst e; rw [orP_step, h]; simp
  · exact orP_else e _ _
theorem relN_had (h : P k m = true) : relN (orP P Q k m) n = relN (orP P Q k (m + 1)) n := relN_congr fun i j hi hj => by
  by_cases e : i = k
  · subst e
    rw [orP_step]
    by_cases e2 : j = m
    · subst e2; unfold orP; rw [h]; simp
    · rw [decide_eq_false e2]; simp
  · exact orP_else e _ _
theorem relN_skip {m' : Nat} (hmm : m ≤ m') (h : ∀ j, m ≤ j → j < m' → Q k j = false) : relN (orP P Q k m) n = relN (orP P Q k m') n := relN_congr fun i j hi hj => by
  by_cases e : i = k
  · subst e
    unfold orP
    by_cases h1 : j < m
    · rw [decide_eq_true h1, decide_eq_true (show j < m' by omega)]
    · by_cases h2 : j < m'
      · rw [h j (by omega) h2]; simp
      · rw [decide_eq_false h1, decide_eq_false h2]
  · exact orP_else e _ _
end
theorem relN_lt (R : Nat → Nat → Bool) {n : Nat} (hn : n ≤ 16) (i : Nat) : relN R n i < 65536 := by
  unfold relN
  split
  · exact bitsTo_lt_16 _ hn
  · decide
theorem relN_lt_n (R : Nat → Nat → Bool) (n i : Nat) : relN R n i < 2 ^ n := by
  unfold relN
  split
  · exact bitsTo_lt _ _
  · exact Nat.pow_pos (by decide)
theorem relN_bit (R : Nat → Nat → Bool) (n i j : Nat) : (relN R n i).testBit j = (decide (i < n) && (decide (j < n) && R i j)) := by
  unfold relN
  by_cases h : i < n
  · rw [if_pos h, bitsTo_testBit, decide_eq_true h, Bool.true_and]
  · rw [if_neg h, decide_eq_false h]; simp
end Go.Proofs.Ytbhjljnbjomnhaa
