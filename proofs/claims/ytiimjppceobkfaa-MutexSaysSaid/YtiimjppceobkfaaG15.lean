/- Lemmas for the walks (Hist8, Gtq, Law). No condition. -/
import Derived.Test.YtiimjppceobkfaaG14
import Derived.Test.YtiimjppceobkfaaG07
import Derived.Test.YtiimjppceobkfaaG05
import Derived.Test.YtiimjppceobkfaaRows
import Derived.Test.YtiimjppceobkfaaG01
import Derived.ProofKit
import Derived.Deep.Slices
import Derived.Deep.Fields
import Derived.Lib.SmallJoins
import Derived.ChangeSlices
set_option linter.unusedSimpArgs false
set_option linter.unusedVariables false
set_option linter.unusedSectionVars false
set_option linter.unnecessarySimpa false
namespace Go.Proofs.Ytiimjppceobkfaa
open Go.RowKit

theorem between_B (a b c : Int) (w : World) : Calls Try.prog 33 #[.int .i64 a, .int .i64 b, .int .i64 c] w fun e w' => e = .returned (.bool (decide (b ≤ a) && decide (a ≤ c))) ∧ Below w.heap.size w w' :=
  Calls.same_below (between_any a b c w)
theorem badT_between (t : Int) : (decide (1 ≤ t) && decide (t ≤ 5)) = !badT t := by
  rw [Bool.eq_iff_iff]
  simp [badT]
theorem Cl.enc_mk (a b c d e f g : Int) : Cl.enc ⟨a, b, c, d, e, f, g⟩ = [.int .i64 a, .int .i64 b, .int .i64 c, .int .i64 d, .int .i64 e, .int .i64 f, .int .i64 g] := rfl
set_option maxRecDepth 100000 in
theorem kinds_T (t : Int) (w : World) : Calls Try.prog 106 #[.int .i64 t] w fun e w' => ∃ A c, e = .returned (.slice A (kindsL t).length c) ∧ Own intEnc 1 3 w' w.heap.size (.slice A (kindsL t).length c) (kindsL t) ∧ Below w.heap.size w w' := by
  refine calls_T (S := []) [] Try.func106 rfl Try.ntmps106 (by simp) (Mem.nil _) ?_
  repeat' (first | ((with_reducible (first | apply TD_e2z | apply TD_e3z | apply TL_e | apply TD_e2 | apply TD_e3)); (first | exact ES.auto | ((with_reducible apply ES_storeOwn); exact rfl; exact rfl; (first | ((repeat (first | with_reducible exact Upd.here _ _ _ | with_reducible apply Upd.there)); done) | (repeat (first | exact Upd.here _ _ _ | apply Upd.there))); exact fun _ => rfl; (first | exact List.getElem?_set_self (by first | assumption | omega) | exact List.getElem?_eq_getElem (by first | assumption | omega | (simp only [List.length_set]; omega))); decide; exact Cl.enc_mk _ _ _ _ _ _ _; exact rfl)); (first | exact rfl | exact ⟨rfl, rfl, rfl⟩); (first | (rintro _ _ ⟨rfl, rfl⟩) | (rintro _ _ ⟨g, rfl, rfl⟩) | (rintro _ _ ⟨A', c', rfl, rfl⟩)); (try refine ⟨SUB, ?_⟩)) | (refine GO ?_) | (refine GOE ?_; (first | (rintro _ _ ⟨rfl, rfl⟩) | (rintro _ _ ⟨g, rfl, rfl⟩) | (rintro _ _ ⟨A', c', rfl, rfl⟩))) | ((refine GO2 ?_ ?_) <;> intro h <;> (try (repeat (first | with_reducible (replace h := of_decide_eq_true h) | with_reducible (replace h := of_decide_eq_false h) | with_reducible (replace h := bnt h) | with_reducible (replace h := bnf h) | with_reducible (replace h := Int.not_lt.mp h) | with_reducible (replace h := Int.not_le.mp h) | with_reducible (replace h := band_dec h) | with_reducible (replace h := band_decF h) | with_reducible (replace h := bor_dec h) | with_reducible (replace h := bor_decF h)))) <;> (try (exfalso; first | contradiction | omega))))
  all_goals (refine At_ret Try.results106 rfl (fun w' hw => ?_))
  all_goals try subst_vars
  all_goals first
    | exact ⟨_, _, rfl, hw.blkOut (enc := intEnc) [1, 2] rfl (by first | ((repeat (first | with_reducible exact List.mem_cons_self | with_reducible apply List.mem_cons_of_mem)); done) | (repeat (first | exact List.Mem.head _ | apply List.Mem.tail))) rfl (fun _ => rfl) (by decide), hw.below0 rfl⟩
    | exact ⟨_, _, rfl, hw.blkOut (enc := intEnc) [3, 4] rfl (by first | ((repeat (first | with_reducible exact List.mem_cons_self | with_reducible apply List.mem_cons_of_mem)); done) | (repeat (first | exact List.Mem.head _ | apply List.Mem.tail))) rfl (fun _ => rfl) (by decide), hw.below0 rfl⟩
    | exact ⟨_, _, rfl, hw.blkOut (enc := intEnc) [5, 6] rfl (by first | ((repeat (first | with_reducible exact List.mem_cons_self | with_reducible apply List.mem_cons_of_mem)); done) | (repeat (first | exact List.Mem.head _ | apply List.Mem.tail))) rfl (fun _ => rfl) (by decide), hw.below0 rfl⟩
    | exact ⟨_, _, rfl, hw.blkOut (enc := intEnc) [7, 8, 9] rfl (by first | ((repeat (first | with_reducible exact List.mem_cons_self | with_reducible apply List.mem_cons_of_mem)); done) | (repeat (first | exact List.Mem.head _ | apply List.Mem.tail))) rfl (fun _ => rfl) (by decide), hw.below0 rfl⟩
    | exact ⟨_, _, rfl, hw.blkOut (enc := intEnc) [10] rfl (by first | ((repeat (first | with_reducible exact List.mem_cons_self | with_reducible apply List.mem_cons_of_mem)); done) | (repeat (first | exact List.Mem.head _ | apply List.Mem.tail))) rfl (fun _ => rfl) (by decide), hw.below0 rfl⟩
    | (have e : kindsL t = [] := by simp [kindsL, *]
       rw [e]; exact ⟨none, 0, rfl, Own.nil _ _, hw.below0 rfl⟩)

theorem kindsL_len (t : Int) : (kindsL t).length ≤ 9223372036854775807 := by
  unfold kindsL
  repeat' split
  all_goals decide
section
variable {ts : List Int} {cs : List Cl} {i z tt : Int} {x : Ev}
theorem evR_none (hf : formBad ts x = false) (hk : x.kind = 0) (hz : openTo cs x.who cs.length = z) (h : z < 0) : evR ts cs i x = (4, cs) := by
  unfold evR; rw [if_neg (by rw [hf]; decide), if_pos hk, hz, if_pos h]
theorem evR_bad0 {c : Cl} (hf : formBad ts x = false) (hk : x.kind = 0) (hz : openTo cs x.who cs.length = z) (h : 0 ≤ z) (hc : cs.getD z.toNat default = c) (hn : ¬ (c.thing = x.thing ∧ ansB c.kind x.value = true)) : evR ts cs i x = (3, cs) := by
  unfold evR; rw [if_neg (by rw [hf]; decide), if_pos hk, hz, if_neg (by omega), hc, if_neg hn]
theorem evR_end {c : Cl} (hf : formBad ts x = false) (hk : x.kind = 0) (hz : openTo cs x.who cs.length = z) (h : 0 ≤ z) (hc : cs.getD z.toNat default = c) (hn : c.thing = x.thing ∧ ansB c.kind x.value = true) : evR ts cs i x = (0, cs.set z.toNat { c with res := x.value, to := i }) := by
  unfold evR; rw [if_neg (by rw [hf]; decide), if_pos hk, hz, if_neg (by omega), hc, if_pos hn]
theorem evR_bad1 (hf : formBad ts x = false) (hk : ¬ x.kind = 0) (ht : ts.getD x.thing.toNat 0 = tt) (h : ((kindsL tt).contains x.kind && argB x.kind x.value) = false) : evR ts cs i x = (3, cs) := by
  unfold evR; rw [if_neg (by rw [hf]; decide), if_neg hk, ht, if_pos h]
theorem evR_twice (hf : formBad ts x = false) (hk : ¬ x.kind = 0) (ht : ts.getD x.thing.toNat 0 = tt) (h1 : (kindsL tt).contains x.kind = true) (h2 : argB x.kind x.value = true) (hz : openTo cs x.who cs.length = z) (h : 0 ≤ z) : evR ts cs i x = (5, cs) := by
  unfold evR; rw [if_neg (by rw [hf]; decide), if_neg hk, ht, if_neg (by simp only [h1, h2]; decide), hz, if_pos h]
theorem evR_push (hf : formBad ts x = false) (hk : ¬ x.kind = 0) (ht : ts.getD x.thing.toNat 0 = tt) (h1 : (kindsL tt).contains x.kind = true) (h2 : argB x.kind x.value = true) (hz : openTo cs x.who cs.length = z) (h : ¬ 0 ≤ z) : evR ts cs i x = (0, cs ++ [⟨x.who, x.thing, x.kind, x.value, 0, i, -1⟩]) := by
  unfold evR; rw [if_neg (by rw [hf]; decide), if_neg hk, ht, if_neg (by simp only [h1, h2]; decide), hz, if_neg h]
theorem thing_at {t : Int} (h : t.toNat < ts.length) (hg : ts.getD t.toNat 0 = ts[t.toNat]) : ts.getD t.toNat 0 = ts[t.toNat] := hg
end
theorem callsR_types {ts : List Int} {l : List Ev} (h : typesOk ts = false) : callsR ts l = ([], 0, 1) := by simp [callsR, typesE, h]
theorem callsR_long {ts : List Int} {l : List Ev} (h : typesOk ts = true) (hl : 200 < l.length) : callsR ts l = ([], 0, 2) := by simp [callsR, typesE, h, hl]
theorem callsR_err {ts : List Int} {l : List Ev} (h : typesOk ts = true) (hl : l.length ≤ 200) {k : Nat} (hk : k < l.length) (hno : ∀ j, j < k → erR ts l j = 0) {z : Int} (he : erR ts l k = z) (hz : z ≠ 0) : callsR ts l = ([], (k : Int), z) := by
  have hf := failR_at hk hno (by rw [he]; exact hz)
  have ht : typesE ts = 0 := by simp [typesE, h]
  simp only [callsR, ht, hf]
  rw [if_neg (by simp), if_neg (by omega), if_pos hk, he]
theorem callsR_ok {ts : List Int} {l : List Ev} (h : typesOk ts = true) (hl : l.length ≤ 200) (hno : ∀ j, j < l.length → erR ts l j = 0) : callsR ts l = (stR ts l l.length, 0, 0) := by
  have hf := failR_none hno
  have ht : typesE ts = 0 := by simp [typesE, h]
  simp only [callsR, ht, hf]
  rw [if_neg (by simp), if_neg (by omega), if_neg (by omega)]
theorem all_succ {p : Nat → Prop} {k : Nat} (h : ∀ j, j < k → p j) (hk : p k) : ∀ j, j < k + 1 → p j := fun j hj => by
  by_cases e : j = k
  · rw [e]; exact hk
  · exact h j (by omega)
theorem typesOk_no {ts : List Int} {k : Nat} (hk : k < ts.length) (h : ts[k] < 1 ∨ 5 < ts[k]) : typesOk ts = false := by
  have : ts.any badT = true := List.any_eq_true.2 ⟨ts[k], List.getElem_mem hk, by simp [badT, h]⟩
  simp [typesOk, this]
set_option maxRecDepth 100000 in
set_option maxHeartbeats 2000000 in
theorem callsOf_any (T A : Option Addr) (ct c : Nat) (ts : List Int) (l : List Ev) (w : World) (hts : ts.length ≤ 9223372036854775807) (hl : l.length ≤ 9223372036854775807) (hT : RdInt w T ts) (hA : RdEv w A l) :
    Calls Try.prog 41 #[.slice T ts.length ct, .slice A l.length c] w fun e w' => ∃ A' c', e = .returned (.tuple #[.slice A' (callsR ts l).1.length c', .int .i64 (callsR ts l).2.1, .int .i64 (callsR ts l).2.2]) ∧
      Own Cl.enc 7 76 w' w.heap.size (.slice A' (callsR ts l).1.length c') (callsR ts l).1 ∧ Below w.heap.size w w' := by
  refine calls_T (S := []) [] Try.func41 rfl Try.ntmps41 (by simp) (Mem.nil _) ?_
  repeat' (first | ((with_reducible (first | apply TD_e2z | apply TD_e3z | apply TL_e | apply TD_e2 | apply TD_e3)); (first | exact ES.auto | ((with_reducible apply ES_storeOwn); exact rfl; exact rfl; (first | ((repeat (first | with_reducible exact Upd.here _ _ _ | with_reducible apply Upd.there)); done) | (repeat (first | exact Upd.here _ _ _ | apply Upd.there))); exact fun _ => rfl; (first | exact List.getElem?_set_self (by first | assumption | omega) | exact List.getElem?_eq_getElem (by first | assumption | omega | (simp only [List.length_set]; omega))); decide; exact Cl.enc_mk _ _ _ _ _ _ _; exact rfl)); (first | exact rfl | exact ⟨rfl, rfl, rfl⟩); (first | (rintro _ _ ⟨rfl, rfl⟩) | (rintro _ _ ⟨g, rfl, rfl⟩) | (rintro _ _ ⟨A', c', rfl, rfl⟩)); (try refine ⟨SUB, ?_⟩)) | (refine GO ?_) | (refine GOE ?_; (first | (rintro _ _ ⟨rfl, rfl⟩) | (rintro _ _ ⟨g, rfl, rfl⟩) | (rintro _ _ ⟨A', c', rfl, rfl⟩))) | ((refine GO2 ?_ ?_) <;> intro h <;> (try (repeat (first | with_reducible (replace h := of_decide_eq_true h) | with_reducible (replace h := of_decide_eq_false h) | with_reducible (replace h := bnt h) | with_reducible (replace h := bnf h) | with_reducible (replace h := Int.not_lt.mp h) | with_reducible (replace h := Int.not_le.mp h) | with_reducible (replace h := band_dec h) | with_reducible (replace h := band_decF h) | with_reducible (replace h := bor_dec h) | with_reducible (replace h := bor_decF h)))) <;> (try (exfalso; first | contradiction | omega))))
  refine T_loop (X := Nat) (fun k => [(17, .int .i64 (k : Nat)), (16, .int .i64 ts.length), (15, .slice T ts.length ct), (0, .slice T ts.length ct), (1, .slice A l.length c)])
    (fun _ => []) (fun k => k ≤ ts.length ∧ (ts.take k).any badT = false) (fun k => ts.length - k) 0 ⟨by omega, by simp⟩ (by (repeat (first | exact SubE.nil _ | refine SubE.cons rfl ?_))) (by exact SUBS) ?_
  rintro k ⟨hk, hno⟩
  by_cases hlt : k < ts.length
  · obtain ⟨b, o, rfl, hb0⟩ := RdE.open hT (by omega)
    repeat' (first | ((with_reducible (first | apply TD_e2z | apply TD_e3z | apply TL_e | apply TD_e2 | apply TD_e3)); (first | exact ES.auto | ((with_reducible apply ES_storeOwn); exact rfl; exact rfl; (first | ((repeat (first | with_reducible exact Upd.here _ _ _ | with_reducible apply Upd.there)); done) | (repeat (first | exact Upd.here _ _ _ | apply Upd.there))); exact fun _ => rfl; (first | exact List.getElem?_set_self (by first | assumption | omega) | exact List.getElem?_eq_getElem (by first | assumption | omega | (simp only [List.length_set]; omega))); decide; exact Cl.enc_mk _ _ _ _ _ _ _; exact rfl)); (first | exact rfl | exact ⟨rfl, rfl, rfl⟩); (first | (rintro _ _ ⟨rfl, rfl⟩) | (rintro _ _ ⟨g, rfl, rfl⟩) | (rintro _ _ ⟨A', c', rfl, rfl⟩)); (try refine ⟨SUB, ?_⟩)) | (refine GO ?_) | (refine GOE ?_; (first | (rintro _ _ ⟨rfl, rfl⟩) | (rintro _ _ ⟨g, rfl, rfl⟩) | (rintro _ _ ⟨A', c', rfl, rfl⟩))) | ((refine GO2 ?_ ?_) <;> intro h <;> (try (repeat (first | with_reducible (replace h := of_decide_eq_true h) | with_reducible (replace h := of_decide_eq_false h) | with_reducible (replace h := bnt h) | with_reducible (replace h := bnf h) | with_reducible (replace h := Int.not_lt.mp h) | with_reducible (replace h := Int.not_le.mp h) | with_reducible (replace h := band_dec h) | with_reducible (replace h := band_decF h) | with_reducible (replace h := bor_dec h) | with_reducible (replace h := bor_decF h)))) <;> (try (exfalso; first | contradiction | omega))) | ((with_reducible (first | apply TD_e2z | apply TD_e3z | apply TL_e | apply TD_e2 | apply TD_e3)); ((with_reducible apply ES_callV (f := 33)); exact rfl; (intro w hw; exact between_B _ _ _ _); exact rfl); (first | exact rfl | exact ⟨rfl, rfl, rfl⟩); (rintro _ _ ⟨rfl, rfl⟩); (try refine ⟨SUB, ?_⟩)))
    · (refine At_ret Try.results41 rfl (fun w' hw => ?_))
      rw [callsR_types (typesOk_no hlt (by omega))]
      exact ⟨none, 0, rfl, Own.nil _ _, hw.below0 rfl⟩
    · (refine At_rounds (k + 1) ?_ ?_ ?_ ?_; (exact ⟨by omega, any_take_succ' hlt hno (by simp [badT]; omega)⟩); (omega); ((repeat (first | exact SubE.nil _ | refine SubE.cons rfl ?_))); (exact SUBS))
  · obtain rfl : k = ts.length := by omega
    repeat' (first | ((with_reducible (first | apply TD_e2z | apply TD_e3z | apply TL_e | apply TD_e2 | apply TD_e3)); (first | exact ES.auto | ((with_reducible apply ES_storeOwn); exact rfl; exact rfl; (first | ((repeat (first | with_reducible exact Upd.here _ _ _ | with_reducible apply Upd.there)); done) | (repeat (first | exact Upd.here _ _ _ | apply Upd.there))); exact fun _ => rfl; (first | exact List.getElem?_set_self (by first | assumption | omega) | exact List.getElem?_eq_getElem (by first | assumption | omega | (simp only [List.length_set]; omega))); decide; exact Cl.enc_mk _ _ _ _ _ _ _; exact rfl)); (first | exact rfl | exact ⟨rfl, rfl, rfl⟩); (first | (rintro _ _ ⟨rfl, rfl⟩) | (rintro _ _ ⟨g, rfl, rfl⟩) | (rintro _ _ ⟨A', c', rfl, rfl⟩)); (try refine ⟨SUB, ?_⟩)) | (refine GO ?_) | (refine GOE ?_; (first | (rintro _ _ ⟨rfl, rfl⟩) | (rintro _ _ ⟨g, rfl, rfl⟩) | (rintro _ _ ⟨A', c', rfl, rfl⟩))) | ((refine GO2 ?_ ?_) <;> intro h <;> (try (repeat (first | with_reducible (replace h := of_decide_eq_true h) | with_reducible (replace h := of_decide_eq_false h) | with_reducible (replace h := bnt h) | with_reducible (replace h := bnf h) | with_reducible (replace h := Int.not_lt.mp h) | with_reducible (replace h := Int.not_le.mp h) | with_reducible (replace h := band_dec h) | with_reducible (replace h := band_decF h) | with_reducible (replace h := bor_dec h) | with_reducible (replace h := bor_decF h)))) <;> (try (exfalso; first | contradiction | omega))) | ((with_reducible (first | apply TD_e2z | apply TD_e3z | apply TL_e | apply TD_e2 | apply TD_e3)); ((with_reducible apply ES_callV (f := 33)); exact rfl; (intro w hw; exact between_B _ _ _ _); exact rfl); (first | exact rfl | exact ⟨rfl, rfl, rfl⟩); (rintro _ _ ⟨rfl, rfl⟩); (try refine ⟨SUB, ?_⟩)))
    · (refine At_ret Try.results41 rfl (fun w' hw => ?_))
      rw [callsR_types (by simp [typesOk]; omega)]
      exact ⟨none, 0, rfl, Own.nil _ _, hw.below0 rfl⟩
    · (refine At_ret Try.results41 rfl (fun w' hw => ?_))
      rw [callsR_long (by rw [List.take_length] at hno; simp [typesOk, hno]; omega) (by omega)]
      exact ⟨none, 0, rfl, Own.nil _ _, hw.below0 rfl⟩
    have hok : typesOk ts = true := by rw [List.take_length] at hno; simp [typesOk, hno]; omega
    have hl2 : l.length ≤ 200 := by omega
    refine T_loop (X := Nat × Option Addr × Nat)
      (fun x => [(34, .int .i64 (x.1 : Nat)), (33, .int .i64 l.length), (32, .slice A l.length c), (9, .slice x.2.1 (stR ts l x.1).length x.2.2), (0, .slice T ts.length ct)])
      (fun x => [entOwn Cl.enc 7 76 x.2.1 x.2.2 (stR ts l x.1)]) (fun x => x.1 ≤ l.length ∧ ∀ j, j < x.1 → erR ts l j = 0) (fun x => l.length - x.1) (0, none, 0)
      ⟨by simp, by simp⟩ (by (repeat (first | exact SubE.nil _ | refine SubE.cons rfl ?_))) (fun w hw => (hw.nilOwn Cl.enc 7 76).sub (by first | ((repeat (first | with_reducible exact List.nil_sublist _ | with_reducible exact List.Sublist.refl _ | with_reducible apply List.Sublist.cons_cons | with_reducible apply List.Sublist.cons)); done) | (repeat (first | exact List.nil_sublist _ | exact List.Sublist.refl _ | apply List.Sublist.cons_cons | apply List.Sublist.cons)))) ?_
    rintro ⟨k, A1, c1⟩ ⟨hk, hno2⟩
    dsimp only at hk hno2 ⊢
    have hlen2 : (stR ts l k).length ≤ k := by rw [← (run_same ts l k).1]; exact stP_len ts l k
    by_cases hlt : k < l.length
    · obtain ⟨b, o, rfl, hb0⟩ := RdE.open hA (by omega)
      have hg : l.getD k default = l[k] := by simp [hlt]
      have hst : erR ts l k = (evR ts (stR ts l k) k l[k]).1 ∧ stR ts l (k + 1) = (evR ts (stR ts l k) k l[k]).2 := by rw [← hg]; exact ⟨rfl, rfl⟩
      generalize stR ts l k = cs at hst hlen2 ⊢
      repeat' (first | ((with_reducible (first | apply TD_e2z | apply TD_e3z | apply TL_e | apply TD_e2 | apply TD_e3)); (first | exact ES.auto | ((with_reducible apply ES_storeOwn); exact rfl; exact rfl; (first | ((repeat (first | with_reducible exact Upd.here _ _ _ | with_reducible apply Upd.there)); done) | (repeat (first | exact Upd.here _ _ _ | apply Upd.there))); exact fun _ => rfl; (first | exact List.getElem?_set_self (by first | assumption | omega) | exact List.getElem?_eq_getElem (by first | assumption | omega | (simp only [List.length_set]; omega))); decide; exact Cl.enc_mk _ _ _ _ _ _ _; exact rfl)); (first | exact rfl | exact ⟨rfl, rfl, rfl⟩); (first | (rintro _ _ ⟨rfl, rfl⟩) | (rintro _ _ ⟨g, rfl, rfl⟩) | (rintro _ _ ⟨A', c', rfl, rfl⟩)); (try refine ⟨SUB, ?_⟩)) | (refine GO ?_) | (refine GOE ?_; (first | (rintro _ _ ⟨rfl, rfl⟩) | (rintro _ _ ⟨g, rfl, rfl⟩) | (rintro _ _ ⟨A', c', rfl, rfl⟩))) | ((refine GO2 ?_ ?_) <;> intro h <;> (try (repeat (first | with_reducible (replace h := of_decide_eq_true h) | with_reducible (replace h := of_decide_eq_false h) | with_reducible (replace h := bnt h) | with_reducible (replace h := bnf h) | with_reducible (replace h := Int.not_lt.mp h) | with_reducible (replace h := Int.not_le.mp h) | with_reducible (replace h := band_dec h) | with_reducible (replace h := band_decF h) | with_reducible (replace h := bor_dec h) | with_reducible (replace h := bor_decF h)))) <;> (try (exfalso; first | contradiction | omega))) | ((with_reducible (first | apply TD_e2z | apply TD_e3z | apply TL_e | apply TD_e2 | apply TD_e3)); ((with_reducible apply ES_callV (f := 33)); exact rfl; (intro w hw; exact between_B _ _ _ _); exact rfl); (first | exact rfl | exact ⟨rfl, rfl, rfl⟩); (rintro _ _ ⟨rfl, rfl⟩); (try refine ⟨SUB, ?_⟩)))
      · (refine At_ret Try.results41 rfl (fun w' hw => ?_))
        have he : (evR ts cs k l[k]).1 = 3 := by unfold evR; rw [if_pos (by simp only [formBad, Bool.or_eq_true, decide_eq_true_eq]; omega)]
        rw [callsR_err hok hl2 hlt hno2 (hst.1.trans he) (by decide)]
        exact ⟨none, 0, rfl, Own.nil _ _, hw.below0 rfl⟩
      · (refine At_ret Try.results41 rfl (fun w' hw => ?_))
        have he : (evR ts cs k l[k]).1 = 3 := by unfold evR; rw [if_pos (by simp only [formBad, Bool.or_eq_true, decide_eq_true_eq]; omega)]
        rw [callsR_err hok hl2 hlt hno2 (hst.1.trans he) (by decide)]
        exact ⟨none, 0, rfl, Own.nil _ _, hw.below0 rfl⟩
      have hff : formBad ts l[k] = false := by simp only [formBad, Bool.or_eq_false_iff, decide_eq_false_iff_not]; omega
      refine T_loop (X := Nat)
        (fun j => [(55, .int .i64 (j : Nat)), (54, .int .i64 cs.length), (53, .slice A1 cs.length c1), (12, .int .i64 (openTo cs l[k].who j)), (11, .pointer (some ⟨g, 0, none⟩)), (10, .int .i64 (k : Nat)), (34, .int .i64 (k : Nat)), (33, .int .i64 l.length), (32, .slice (some ⟨b, o, none⟩) l.length c), (9, .slice A1 cs.length c1), (0, .slice T ts.length ct)])
        (fun _ => [entBlk g 45 (Ev.enc l[k]).toArray, entOwn Cl.enc 7 76 A1 c1 cs]) (fun j => j ≤ cs.length) (fun j => cs.length - j) 0
        (by omega) (by (repeat (first | exact SubE.nil _ | refine SubE.cons rfl ?_))) (by exact SUBS) ?_
      intro j hj
      by_cases hjl : j < cs.length
      · have hgj : cs.getD j default = cs[j] := by simp [hjl]
        refine T_own (by first | ((repeat (first | with_reducible exact List.mem_cons_self | with_reducible apply List.mem_cons_of_mem)); done) | (repeat (first | exact List.Mem.head _ | apply List.Mem.tail))) (by omega) ?_
        rintro g2 rfl
        repeat' (first | ((with_reducible (first | apply TD_e2z | apply TD_e3z | apply TL_e | apply TD_e2 | apply TD_e3)); (first | exact ES.auto | ((with_reducible apply ES_storeOwn); exact rfl; exact rfl; (first | ((repeat (first | with_reducible exact Upd.here _ _ _ | with_reducible apply Upd.there)); done) | (repeat (first | exact Upd.here _ _ _ | apply Upd.there))); exact fun _ => rfl; (first | exact List.getElem?_set_self (by first | assumption | omega) | exact List.getElem?_eq_getElem (by first | assumption | omega | (simp only [List.length_set]; omega))); decide; exact Cl.enc_mk _ _ _ _ _ _ _; exact rfl)); (first | exact rfl | exact ⟨rfl, rfl, rfl⟩); (first | (rintro _ _ ⟨rfl, rfl⟩) | (rintro _ _ ⟨g, rfl, rfl⟩) | (rintro _ _ ⟨A', c', rfl, rfl⟩)); (try refine ⟨SUB, ?_⟩)) | (refine GO ?_) | (refine GOE ?_; (first | (rintro _ _ ⟨rfl, rfl⟩) | (rintro _ _ ⟨g, rfl, rfl⟩) | (rintro _ _ ⟨A', c', rfl, rfl⟩))) | ((refine GO2 ?_ ?_) <;> intro h <;> (try (repeat (first | with_reducible (replace h := of_decide_eq_true h) | with_reducible (replace h := of_decide_eq_false h) | with_reducible (replace h := bnt h) | with_reducible (replace h := bnf h) | with_reducible (replace h := Int.not_lt.mp h) | with_reducible (replace h := Int.not_le.mp h) | with_reducible (replace h := band_dec h) | with_reducible (replace h := band_decF h) | with_reducible (replace h := bor_dec h) | with_reducible (replace h := bor_decF h)))) <;> (try (exfalso; first | contradiction | omega))))
        all_goals
          refine At_rounds (j + 1) (by show j + 1 ≤ cs.length; omega) (by omega) ?_ (by exact SUBS)
          have ho : openTo cs l[k].who (j + 1) = if cs[j].who = l[k].who ∧ cs[j].to = -1 then (j : Int) else openTo cs l[k].who j := by rw [openTo, hgj]
          rw [ho]
          first | rw [if_pos ⟨‹_›, ‹_›⟩] | rw [if_neg (by intro h; simp_all)]
          (repeat (first | exact SubE.nil _ | refine SubE.cons rfl ?_))
      · obtain rfl : j = cs.length := by omega
        have hzl := openTo_lt cs l[k].who cs.length
        generalize hz : openTo cs l[k].who cs.length = z at hzl ⊢
        obtain ⟨bt, ot, rfl, hbt⟩ := RdE.open hT (by omega)
        have hzt : l[k].thing.toNat < ts.length := by omega
        have hgt : ts.getD l[k].thing.toNat 0 = ts[l[k].thing.toNat] := by simp [hzt]
        by_cases hz0 : 0 ≤ z
        · refine T_own (by first | ((repeat (first | with_reducible exact List.mem_cons_self | with_reducible apply List.mem_cons_of_mem)); done) | (repeat (first | exact List.Mem.head _ | apply List.Mem.tail))) (by omega) ?_
          rintro g2 rfl
          have hzn : z.toNat < cs.length := by omega
          have hgz : cs.getD z.toNat default = cs[z.toNat] := by simp [hzn]
          repeat' (first | ((with_reducible (first | apply TD_e2z | apply TD_e3z | apply TL_e | apply TD_e2 | apply TD_e3)); (first | exact ES.auto | ((with_reducible apply ES_storeOwn); exact rfl; exact rfl; (first | ((repeat (first | with_reducible exact Upd.here _ _ _ | with_reducible apply Upd.there)); done) | (repeat (first | exact Upd.here _ _ _ | apply Upd.there))); exact fun _ => rfl; (first | exact List.getElem?_set_self (by first | assumption | omega) | exact List.getElem?_eq_getElem (by first | assumption | omega | (simp only [List.length_set]; omega))); decide; exact Cl.enc_mk _ _ _ _ _ _ _; exact rfl)); (first | exact rfl | exact ⟨rfl, rfl, rfl⟩); (first | (rintro _ _ ⟨rfl, rfl⟩) | (rintro _ _ ⟨g, rfl, rfl⟩) | (rintro _ _ ⟨A', c', rfl, rfl⟩)); (try refine ⟨SUB, ?_⟩)) | (refine GG ?_) | (refine GE ?_; (first | (rintro _ _ ⟨rfl, rfl⟩) | (rintro _ _ ⟨g, rfl, rfl⟩) | (rintro _ _ ⟨A', c', rfl, rfl⟩)); (try refine ⟨SUB, ?_⟩)) | ((refine GO2 ?_ ?_) <;> intro h <;> (try (repeat (first | with_reducible (replace h := of_decide_eq_true h) | with_reducible (replace h := of_decide_eq_false h) | with_reducible (replace h := bnt h) | with_reducible (replace h := bnf h) | with_reducible (replace h := Int.not_lt.mp h) | with_reducible (replace h := Int.not_le.mp h) | with_reducible (replace h := band_dec h) | with_reducible (replace h := band_decF h) | with_reducible (replace h := bor_dec h) | with_reducible (replace h := bor_decF h)))) <;> (try (exfalso; first | contradiction | omega))) | (refine GOF ?_ ?_) | ((with_reducible apply T_draw (id := 27) 1000 (OT.seq [(0, 0), (0, 1), (0, 2), (0, 3), (0, 5), (1, 4), (1, 6), (0, 7), (0, 8), (0, 9), (0, 10), (0, 11), (0, 12), (0, 14), (1, 13), (1, 15), (2, 16), (0, 17), (0, 18)] .nil)); kernel_rfl; exact rfl; kernel_rfl; (repeat (first | with_reducible exact Blind.body | with_reducible apply Blind.seq | with_reducible apply Blind.block))) | ((with_reducible apply T_draw (id := 30) 1000 (OT.seq [(0, 0), (0, 1), (0, 6), (1, 2), (0, 3), (1, 4), (1, 7), (2, 5), (2, 8), (0, 9), (0, 10), (0, 11), (0, 13), (1, 12), (1, 14), (2, 15), (0, 16), (0, 17)] .nil)); kernel_rfl; exact rfl; kernel_rfl; (repeat (first | with_reducible exact Blind.body | with_reducible apply Blind.seq | with_reducible apply Blind.block))) | ((with_reducible (first | apply TD_e2z | apply TD_e3z | apply TL_e | apply TD_e2 | apply TD_e3)); ((with_reducible apply ES_callV (f := 105)); exact rfl; (intro w hw; exact Calls.same_below (answers_any _ _ _)); exact rfl); (first | exact rfl | exact ⟨rfl, rfl, rfl⟩); (rintro _ _ ⟨rfl, rfl⟩); (try refine ⟨SUB, ?_⟩)) | ((with_reducible (first | apply TD_e2z | apply TD_e3z | apply TL_e | apply TD_e2 | apply TD_e3)); ((with_reducible apply ES_callOwn (f := 106)); exact rfl; (intro w hw; exact kinds_T _ _); exact rfl); (first | exact rfl | exact ⟨rfl, rfl, rfl⟩); (rintro _ _ ⟨A, c, rfl, rfl⟩); (try refine ⟨SUB, ?_⟩)) | ((with_reducible (first | apply TD_e2z | apply TD_e3z | apply TL_e | apply TD_e2 | apply TD_e3)); ((with_reducible apply ES_callV (f := 92)); exact rfl; (intro w hw; exact contains_any _ _ (kindsL _) _ _ (kindsL_len _) (Mem.ownRd hw (by first | ((repeat (first | with_reducible exact List.mem_cons_self | with_reducible apply List.mem_cons_of_mem)); done) | (repeat (first | exact List.Mem.head _ | apply List.Mem.tail))) (fun _ => rfl))); exact rfl); (first | exact rfl | exact ⟨rfl, rfl, rfl⟩); (rintro _ _ ⟨rfl, rfl⟩); (try refine ⟨SUB, ?_⟩)) | ((with_reducible (first | apply TD_e2z | apply TD_e3z | apply TL_e | apply TD_e2 | apply TD_e3)); ((with_reducible apply ES_callV (f := 107)); exact rfl; (intro w hw; exact asks_any _ _ _); exact rfl); (first | exact rfl | exact ⟨rfl, rfl, rfl⟩); (rintro _ _ ⟨rfl, rfl⟩); (try refine ⟨SUB, ?_⟩)) | ((with_reducible (first | apply TD_e2z | apply TD_e3z | apply TL_e | apply TD_e2 | apply TD_e3)); ((with_reducible apply ES_append (enc := Cl.enc) (xs := [(⟨l[k].who, l[k].thing, l[k].kind, l[k].value, 0, k, -1⟩ : Cl)])); exact rfl; exact rfl; exact Lies.blk (by first | ((repeat (first | with_reducible exact List.mem_cons_self | with_reducible apply List.mem_cons_of_mem)); done) | (repeat (first | exact List.Mem.head _ | apply List.Mem.tail))); exact fun _ => rfl; exact fun _ => rfl; (intro A' c'; first | ((repeat (first | with_reducible exact Upd.here _ _ _ | with_reducible apply Upd.there)); done) | (repeat (first | exact Upd.here _ _ _ | apply Upd.there))); (simp; omega); decide; exact rfl); (first | exact rfl | exact ⟨rfl, rfl, rfl⟩); (rintro _ _ ⟨A', c', rfl, rfl⟩); (try refine ⟨SUB, ?_⟩)))
          · (refine At_ret Try.results41 rfl (fun w' hw => ?_))
            rw [callsR_err hok hl2 hlt hno2 (hst.1.trans (congrArg Prod.fst (evR_bad0 hff ‹_› hz hz0 hgz (fun hh => absurd hh.1 ‹_›)))) (by simp)]
            exact ⟨none, 0, rfl, Own.nil _ _, hw.below0 rfl⟩
          · (refine At_ret Try.results41 rfl (fun w' hw => ?_))
            rw [callsR_err hok hl2 hlt hno2 (hst.1.trans (congrArg Prod.fst (evR_bad0 hff ‹_› hz hz0 hgz (fun hh => absurd hh.2 (by rw [‹ansB _ _ = false›]; simp))))) (by simp)]
            exact ⟨none, 0, rfl, Own.nil _ _, hw.below0 rfl⟩
          · have hev := evR_end hff ‹_› hz hz0 hgz ⟨‹_›, ‹_›⟩ (i := k)
            rw [hev] at hst
            refine At_rounds (k + 1, some ⟨g2, 0, none⟩, c1) ⟨by show k + 1 ≤ _; omega, all_succ hno2 hst.1⟩ (by show l.length - (k + 1) < l.length - k; omega) ?_ ?_
            · simp only [hst.2, List.length_set]; (repeat (first | exact SubE.nil _ | refine SubE.cons rfl ?_))
            · simp only [hst.2]
              intro w hw
              have := hw.sub (S' := [entOwn Cl.enc 7 76 (some ⟨g2, 0, none⟩) c1 _]) (by first | ((repeat (first | with_reducible exact List.nil_sublist _ | with_reducible exact List.Sublist.refl _ | with_reducible apply List.Sublist.cons_cons | with_reducible apply List.Sublist.cons)); done) | (repeat (first | exact List.nil_sublist _ | exact List.Sublist.refl _ | apply List.Sublist.cons_cons | apply List.Sublist.cons)))
              rw [List.set_set] at this
              exact this
          · (refine At_ret Try.results41 rfl (fun w' hw => ?_))
            rw [callsR_err hok hl2 hlt hno2 (hst.1.trans (congrArg Prod.fst (evR_bad1 hff ‹_› (thing_at hzt hgt) (by rw [‹List.contains _ _ = false›]; rfl)))) (by simp)]
            exact ⟨none, 0, rfl, Own.nil _ _, hw.below0 rfl⟩
          · (refine At_ret Try.results41 rfl (fun w' hw => ?_))
            rw [callsR_err hok hl2 hlt hno2 (hst.1.trans (congrArg Prod.fst (evR_bad1 hff ‹_› (thing_at hzt hgt) (by rw [‹argB _ _ = false›]; simp)))) (by simp)]
            exact ⟨none, 0, rfl, Own.nil _ _, hw.below0 rfl⟩
          · (refine At_ret Try.results41 rfl (fun w' hw => ?_))
            rw [callsR_err hok hl2 hlt hno2 (hst.1.trans (congrArg Prod.fst (evR_twice hff ‹_› (thing_at hzt hgt) ‹_› ‹_› hz hz0))) (by simp)]
            exact ⟨none, 0, rfl, Own.nil _ _, hw.below0 rfl⟩
        · repeat' (first | ((with_reducible (first | apply TD_e2z | apply TD_e3z | apply TL_e | apply TD_e2 | apply TD_e3)); (first | exact ES.auto | ((with_reducible apply ES_storeOwn); exact rfl; exact rfl; (first | ((repeat (first | with_reducible exact Upd.here _ _ _ | with_reducible apply Upd.there)); done) | (repeat (first | exact Upd.here _ _ _ | apply Upd.there))); exact fun _ => rfl; (first | exact List.getElem?_set_self (by first | assumption | omega) | exact List.getElem?_eq_getElem (by first | assumption | omega | (simp only [List.length_set]; omega))); decide; exact Cl.enc_mk _ _ _ _ _ _ _; exact rfl)); (first | exact rfl | exact ⟨rfl, rfl, rfl⟩); (first | (rintro _ _ ⟨rfl, rfl⟩) | (rintro _ _ ⟨g, rfl, rfl⟩) | (rintro _ _ ⟨A', c', rfl, rfl⟩)); (try refine ⟨SUB, ?_⟩)) | (refine GG ?_) | (refine GE ?_; (first | (rintro _ _ ⟨rfl, rfl⟩) | (rintro _ _ ⟨g, rfl, rfl⟩) | (rintro _ _ ⟨A', c', rfl, rfl⟩)); (try refine ⟨SUB, ?_⟩)) | ((refine GO2 ?_ ?_) <;> intro h <;> (try (repeat (first | with_reducible (replace h := of_decide_eq_true h) | with_reducible (replace h := of_decide_eq_false h) | with_reducible (replace h := bnt h) | with_reducible (replace h := bnf h) | with_reducible (replace h := Int.not_lt.mp h) | with_reducible (replace h := Int.not_le.mp h) | with_reducible (replace h := band_dec h) | with_reducible (replace h := band_decF h) | with_reducible (replace h := bor_dec h) | with_reducible (replace h := bor_decF h)))) <;> (try (exfalso; first | contradiction | omega))) | (refine GOF ?_ ?_) | ((with_reducible apply T_draw (id := 27) 1000 (OT.seq [(0, 0), (0, 1), (0, 2), (0, 3), (0, 5), (1, 4), (1, 6), (0, 7), (0, 8), (0, 9), (0, 10), (0, 11), (0, 12), (0, 14), (1, 13), (1, 15), (2, 16), (0, 17), (0, 18)] .nil)); kernel_rfl; exact rfl; kernel_rfl; (repeat (first | with_reducible exact Blind.body | with_reducible apply Blind.seq | with_reducible apply Blind.block))) | ((with_reducible apply T_draw (id := 30) 1000 (OT.seq [(0, 0), (0, 1), (0, 6), (1, 2), (0, 3), (1, 4), (1, 7), (2, 5), (2, 8), (0, 9), (0, 10), (0, 11), (0, 13), (1, 12), (1, 14), (2, 15), (0, 16), (0, 17)] .nil)); kernel_rfl; exact rfl; kernel_rfl; (repeat (first | with_reducible exact Blind.body | with_reducible apply Blind.seq | with_reducible apply Blind.block))) | ((with_reducible (first | apply TD_e2z | apply TD_e3z | apply TL_e | apply TD_e2 | apply TD_e3)); ((with_reducible apply ES_callV (f := 105)); exact rfl; (intro w hw; exact Calls.same_below (answers_any _ _ _)); exact rfl); (first | exact rfl | exact ⟨rfl, rfl, rfl⟩); (rintro _ _ ⟨rfl, rfl⟩); (try refine ⟨SUB, ?_⟩)) | ((with_reducible (first | apply TD_e2z | apply TD_e3z | apply TL_e | apply TD_e2 | apply TD_e3)); ((with_reducible apply ES_callOwn (f := 106)); exact rfl; (intro w hw; exact kinds_T _ _); exact rfl); (first | exact rfl | exact ⟨rfl, rfl, rfl⟩); (rintro _ _ ⟨A, c, rfl, rfl⟩); (try refine ⟨SUB, ?_⟩)) | ((with_reducible (first | apply TD_e2z | apply TD_e3z | apply TL_e | apply TD_e2 | apply TD_e3)); ((with_reducible apply ES_callV (f := 92)); exact rfl; (intro w hw; exact contains_any _ _ (kindsL _) _ _ (kindsL_len _) (Mem.ownRd hw (by first | ((repeat (first | with_reducible exact List.mem_cons_self | with_reducible apply List.mem_cons_of_mem)); done) | (repeat (first | exact List.Mem.head _ | apply List.Mem.tail))) (fun _ => rfl))); exact rfl); (first | exact rfl | exact ⟨rfl, rfl, rfl⟩); (rintro _ _ ⟨rfl, rfl⟩); (try refine ⟨SUB, ?_⟩)) | ((with_reducible (first | apply TD_e2z | apply TD_e3z | apply TL_e | apply TD_e2 | apply TD_e3)); ((with_reducible apply ES_callV (f := 107)); exact rfl; (intro w hw; exact asks_any _ _ _); exact rfl); (first | exact rfl | exact ⟨rfl, rfl, rfl⟩); (rintro _ _ ⟨rfl, rfl⟩); (try refine ⟨SUB, ?_⟩)) | ((with_reducible (first | apply TD_e2z | apply TD_e3z | apply TL_e | apply TD_e2 | apply TD_e3)); ((with_reducible apply ES_append (enc := Cl.enc) (xs := [(⟨l[k].who, l[k].thing, l[k].kind, l[k].value, 0, k, -1⟩ : Cl)])); exact rfl; exact rfl; exact Lies.blk (by first | ((repeat (first | with_reducible exact List.mem_cons_self | with_reducible apply List.mem_cons_of_mem)); done) | (repeat (first | exact List.Mem.head _ | apply List.Mem.tail))); exact fun _ => rfl; exact fun _ => rfl; (intro A' c'; first | ((repeat (first | with_reducible exact Upd.here _ _ _ | with_reducible apply Upd.there)); done) | (repeat (first | exact Upd.here _ _ _ | apply Upd.there))); (simp; omega); decide; exact rfl); (first | exact rfl | exact ⟨rfl, rfl, rfl⟩); (rintro _ _ ⟨A', c', rfl, rfl⟩); (try refine ⟨SUB, ?_⟩)))
          · (refine At_ret Try.results41 rfl (fun w' hw => ?_))
            rw [callsR_err hok hl2 hlt hno2 (hst.1.trans (congrArg Prod.fst (evR_none hff ‹_› hz (by omega)))) (by simp)]
            exact ⟨none, 0, rfl, Own.nil _ _, hw.below0 rfl⟩
          · (refine At_ret Try.results41 rfl (fun w' hw => ?_))
            rw [callsR_err hok hl2 hlt hno2 (hst.1.trans (congrArg Prod.fst (evR_bad1 hff ‹_› (thing_at hzt hgt) (by rw [‹List.contains _ _ = false›]; rfl)))) (by simp)]
            exact ⟨none, 0, rfl, Own.nil _ _, hw.below0 rfl⟩
          · (refine At_ret Try.results41 rfl (fun w' hw => ?_))
            rw [callsR_err hok hl2 hlt hno2 (hst.1.trans (congrArg Prod.fst (evR_bad1 hff ‹_› (thing_at hzt hgt) (by rw [‹argB _ _ = false›]; simp)))) (by simp)]
            exact ⟨none, 0, rfl, Own.nil _ _, hw.below0 rfl⟩
          · have hev := evR_push hff ‹_› (thing_at hzt hgt) ‹_› ‹_› hz (by omega) (i := k)
            rw [hev] at hst
            refine At_rounds (k + 1, A', c') ⟨by show k + 1 ≤ _; omega, all_succ hno2 hst.1⟩ (by show l.length - (k + 1) < l.length - k; omega) ?_ ?_
            · simp only [hst.2]; (repeat (first | exact SubE.nil _ | refine SubE.cons rfl ?_))
            · simp only [hst.2]; exact SUBS
    · obtain rfl : k = l.length := by omega
      repeat' (first | ((with_reducible (first | apply TD_e2z | apply TD_e3z | apply TL_e | apply TD_e2 | apply TD_e3)); (first | exact ES.auto | ((with_reducible apply ES_storeOwn); exact rfl; exact rfl; (first | ((repeat (first | with_reducible exact Upd.here _ _ _ | with_reducible apply Upd.there)); done) | (repeat (first | exact Upd.here _ _ _ | apply Upd.there))); exact fun _ => rfl; (first | exact List.getElem?_set_self (by first | assumption | omega) | exact List.getElem?_eq_getElem (by first | assumption | omega | (simp only [List.length_set]; omega))); decide; exact Cl.enc_mk _ _ _ _ _ _ _; exact rfl)); (first | exact rfl | exact ⟨rfl, rfl, rfl⟩); (first | (rintro _ _ ⟨rfl, rfl⟩) | (rintro _ _ ⟨g, rfl, rfl⟩) | (rintro _ _ ⟨A', c', rfl, rfl⟩)); (try refine ⟨SUB, ?_⟩)) | (refine GO ?_) | (refine GOE ?_; (first | (rintro _ _ ⟨rfl, rfl⟩) | (rintro _ _ ⟨g, rfl, rfl⟩) | (rintro _ _ ⟨A', c', rfl, rfl⟩))) | ((refine GO2 ?_ ?_) <;> intro h <;> (try (repeat (first | with_reducible (replace h := of_decide_eq_true h) | with_reducible (replace h := of_decide_eq_false h) | with_reducible (replace h := bnt h) | with_reducible (replace h := bnf h) | with_reducible (replace h := Int.not_lt.mp h) | with_reducible (replace h := Int.not_le.mp h) | with_reducible (replace h := band_dec h) | with_reducible (replace h := band_decF h) | with_reducible (replace h := bor_dec h) | with_reducible (replace h := bor_decF h)))) <;> (try (exfalso; first | contradiction | omega))))
      (refine At_ret Try.results41 rfl (fun w' hw => ?_))
      rw [callsR_ok hok hl2 hno2]
      exact ⟨A1, c1, rfl, hw.ownOut rfl (by first | ((repeat (first | with_reducible exact List.mem_cons_self | with_reducible apply List.mem_cons_of_mem)); done) | (repeat (first | exact List.Mem.head _ | apply List.Mem.tail))), hw.below0 rfl⟩
end Go.Proofs.Ytiimjppceobkfaa

namespace Go.Proofs.Ytiimjppceobkfaa
open Go.RowKit

def gtqEqB (x y : Gt) : Bool := decide (x.who = y.who) && (decide (x.inn = y.inn))
theorem gtqEqB_eq (x y : Gt) : gtqEqB x y = true ↔ x = y := by
  cases x; cases y
  simp [gtqEqB]
theorem gtqCells (v : Gt) : Gt.enc v = [.int .i64 v.who, .bool v.inn] := rfl
set_option maxRecDepth 40000 in
theorem run_neq_gtq (x y : Gt) (w : World) : (binOp .neq 32 (.agg (Gt.enc x).toArray) (.agg (Gt.enc y).toArray)).run Try.prog w = .ok (.bool (!gtqEqB x y)) w := by
  obtain ⟨x1, x2⟩ := x
  obtain ⟨y1, y2⟩ := y
  rw [gtqCells, gtqCells, run_neq_struct]
  go_simp
  unfold gtqEqB
  repeat' split
  all_goals simp_all
theorem run_eqGuard_gtq (op : BinOp) (x y : Operand) (xs ys : Array Value) (w : World) : (eqGuard op 32 x y (.agg xs) (.agg ys)).run Try.prog w = .ok () w :=
  run_eqGuard_agg w op _ x y xs ys Try.eqGuardType32
section
variable {C : Ctx} {E : Slots} {S : List Ent} {ty ty3 : Nat} {x y : Operand} (u v : Gt)
theorem QS_neqGtq (hx : evo E x = some (.agg (Gt.enc u).toArray)) (hy : evo E y = some (.agg (Gt.enc v).toArray)) : QS Try.prog C E S (.binOp .neq 32 x y ty3) ty (.bool (!gtqEqB u v)) :=
  QS.of (fun a w ha _ => by
    have h2 := run_neq_gtq u v w
    have hg := run_eqGuard_gtq .neq x y (Gt.enc u).toArray (Gt.enc v).toArray w
    simp only [execOp, ha.evo hx, ha.evo hy, Sem.run_bind, hg, Result.andThen_ok, h2]
    simp)
end
set_option maxRecDepth 100000 in
set_option maxHeartbeats 2000000 in
theorem equalGtq_any (A B : Option Addr) (c d : Nat) (l m : List Gt) (w : World) (hl : l.length ≤ 9223372036854775807) (hm : m.length ≤ 9223372036854775807) (hA : RdE Gt.enc 2 w A l) (hB : RdE Gt.enc 2 w B m) :
    Calls Try.prog 18 #[.slice A l.length c, .slice B m.length d] w fun e w' => e = .returned (.bool (decide (l = m))) ∧ Below w.heap.size w w' := by
  refine calls_T (S := []) [] Try.func18 rfl Try.ntmps18 (by simp) (Mem.nil _) ?_
  repeat' (first | ((first | with_reducible (first | apply TL_q | apply TD_q0 | apply TD_q1 | apply TD_q2 | apply TD_q3) | ((with_reducible (first | apply TD_q0y | apply TD_q1y)); exact rfl; exact rfl; (with_reducible exact rfl))); (first | exact QS.auto | ((with_reducible apply QS_neqGtq); exact rfl; exact rfl)); exact rfl) | (refine GO ?_) | (refine GOE ?_; (first | (rintro _ _ ⟨rfl, rfl⟩) | (rintro _ _ ⟨g, rfl, rfl⟩) | (rintro _ _ ⟨A', c', rfl, rfl⟩))) | ((refine GO2 ?_ ?_) <;> intro h <;> (try (repeat (first | with_reducible (replace h := of_decide_eq_true h) | with_reducible (replace h := of_decide_eq_false h) | with_reducible (replace h := bnt h) | with_reducible (replace h := bnf h) | with_reducible (replace h := Int.not_lt.mp h) | with_reducible (replace h := Int.not_le.mp h) | with_reducible (replace h := band_dec h) | with_reducible (replace h := band_decF h) | with_reducible (replace h := bor_dec h) | with_reducible (replace h := bor_decF h)))) <;> (try (exfalso; first | contradiction | omega))) | fail)
  · (refine At_ret Try.results18 rfl (fun w' hw => ?_))
    rw [decide_eq_false (fun e => by subst e; omega)]
    exact ⟨rfl, hw.below0 rfl⟩
  have hlen : l.length = m.length := by omega
  refine T_loop (X := Nat) (fun k => [(13, .int .i64 (k : Nat)), (12, .int .i64 l.length), (1, .slice B m.length d), (0, .slice A l.length c)])
    (fun _ => []) (fun k => k ≤ l.length ∧ Hid (∀ j, j < k → l[j]? = m[j]?)) (fun k => l.length - k) 0 ⟨by omega, Lib.hid (by omega)⟩ (by (repeat (first | exact SubE.nil _ | refine SubE.cons rfl ?_))) (by exact SUBS) ?_
  rintro k ⟨hk, hall⟩
  by_cases hlt : k < l.length
  · obtain ⟨b, o, rfl, hb0⟩ := RdE.open hA (by omega)
    obtain ⟨b2, o2, rfl, hb2⟩ := RdE.open hB (by omega)
    have hlt2 : k < m.length := by omega
    have hev := gtqEqB_eq l[k] m[k]
    repeat' (first | ((first | with_reducible (first | apply TL_q | apply TD_q0 | apply TD_q1 | apply TD_q2 | apply TD_q3) | ((with_reducible (first | apply TD_q0y | apply TD_q1y)); exact rfl; exact rfl; (with_reducible exact rfl))); (first | exact QS.auto | ((with_reducible apply QS_neqGtq); exact rfl; exact rfl)); exact rfl) | (refine GG ?_) | (refine GE ?_; (first | (rintro _ _ ⟨rfl, rfl⟩) | (rintro _ _ ⟨g, rfl, rfl⟩) | (rintro _ _ ⟨A', c', rfl, rfl⟩)); (try refine ⟨SUB, ?_⟩)) | ((refine GO2 ?_ ?_) <;> intro h <;> (try (repeat (first | with_reducible (replace h := of_decide_eq_true h) | with_reducible (replace h := of_decide_eq_false h) | with_reducible (replace h := bnt h) | with_reducible (replace h := bnf h) | with_reducible (replace h := Int.not_lt.mp h) | with_reducible (replace h := Int.not_le.mp h) | with_reducible (replace h := band_dec h) | with_reducible (replace h := band_decF h) | with_reducible (replace h := bor_dec h) | with_reducible (replace h := bor_decF h)))) <;> (try (exfalso; first | contradiction | omega))) | (refine GOF ?_ ?_) | ((with_reducible apply T_draw (id := 6) 1000 (OT.seq [(0, 0), (0, 1), (0, 2), (0, 4), (0, 5), (0, 6), (1, 3), (1, 7), (0, 8)] .nil)); kernel_rfl; exact rfl; kernel_rfl; (repeat (first | with_reducible exact Blind.body | with_reducible apply Blind.seq | with_reducible apply Blind.block))) | fail)
    · (refine At_ret Try.results18 rfl (fun w' hw => ?_))
      have hne : ¬ l[k] = m[k] := fun e => by
        have h1 : gtqEqB l[k] m[k] = false := by assumption
        rw [hev.2 e] at h1; cases h1
      rw [decide_eq_false (fun e => hne (by subst e; rfl))]
      exact ⟨rfl, hw.below0 rfl⟩
    · have he : l[k] = m[k] := hev.1 (by assumption)
      (refine At_rounds (k + 1) ?_ ?_ ?_ ?_; (exact ⟨by show k + 1 ≤ l.length; omega, Lib.hid (fun j hj => by
        by_cases e : j = k
        · subst e; rw [List.getElem?_eq_getElem hlt, List.getElem?_eq_getElem hlt2, he]
        · exact hall.out j (by omega))⟩); (omega); ((repeat (first | exact SubE.nil _ | refine SubE.cons rfl ?_))); (exact SUBS))
  · obtain rfl : k = l.length := by omega
    repeat' (first | ((first | with_reducible (first | apply TL_q | apply TD_q0 | apply TD_q1 | apply TD_q2 | apply TD_q3) | ((with_reducible (first | apply TD_q0y | apply TD_q1y)); exact rfl; exact rfl; (with_reducible exact rfl))); (first | exact QS.auto | ((with_reducible apply QS_neqGtq); exact rfl; exact rfl)); exact rfl) | (refine GO ?_) | (refine GOE ?_; (first | (rintro _ _ ⟨rfl, rfl⟩) | (rintro _ _ ⟨g, rfl, rfl⟩) | (rintro _ _ ⟨A', c', rfl, rfl⟩))) | ((refine GO2 ?_ ?_) <;> intro h <;> (try (repeat (first | with_reducible (replace h := of_decide_eq_true h) | with_reducible (replace h := of_decide_eq_false h) | with_reducible (replace h := bnt h) | with_reducible (replace h := bnf h) | with_reducible (replace h := Int.not_lt.mp h) | with_reducible (replace h := Int.not_le.mp h) | with_reducible (replace h := band_dec h) | with_reducible (replace h := band_decF h) | with_reducible (replace h := bor_dec h) | with_reducible (replace h := bor_decF h)))) <;> (try (exfalso; first | contradiction | omega))) | fail)
    (refine At_ret Try.results18 rfl (fun w' hw => ?_))
    have he : l = m := by
      apply List.ext_getElem?
      intro j
      by_cases hj : j < l.length
      · exact hall.out j hj
      · rw [List.getElem?_eq_none (by omega), List.getElem?_eq_none (by omega)]
    rw [decide_eq_true he]
    exact ⟨rfl, hw.below0 rfl⟩
end Go.Proofs.Ytiimjppceobkfaa

namespace Go.Proofs.Ytiimjppceobkfaa
open Go.ChangeShapes Go.WideShapes Go.ChangeAt Go.RowKit Go.Deep

section
variable {H : Type} {enc : TypeId × Value → H} {P : Program}

/-- arguments read on as they read, where what was there is as it was -/
theorem trodAll_kept (hl : laidOutB P = true) {W W' : World} (hb : Below W.heap.size W W') {sp : Nat → Bool} :
    ∀ {ts : List TypeId} {vs : List Value} {ds : List (DataW H)} {p : List MemPlace}, (∀ t ∈ ts, P.readableRec t = true ∧ t < P.types.size) → (∀ x ∈ p, x.block < W.heap.size) → (∀ x ∈ p, sp x.block = true) →
      DataW.TrodAll enc P W 0 (fun _ => true) true ts vs ds p → DataW.TrodAll enc P W' 0 sp true ts vs ds p
  | [], _, _, _, _, _, _, h => by
    obtain ⟨rfl, rfl, rfl⟩ := trodAll_nil h
    exact trodAll_mk0
  | t :: ts, _, _, _, ht, hp, hs, h => by
    obtain ⟨v, vs, d, ds, a, b, rfl, rfl, rfl, h1, h2⟩ := trodAll_cons h
    obtain ⟨hr, hrow⟩ := ht t (List.mem_cons_self ..)
    refine ⟨a, b, WideElems.Trod_stays hl hr hrow h1 (fun x hx => hb.same (hp x (List.mem_append_left _ hx))) (fun x hx => hs x (List.mem_append_left _ hx)), ?_, rfl⟩
    exact trodAll_kept hl hb (fun t' h' => ht t' (List.mem_cons_of_mem _ h')) (fun x hx => hp x (List.mem_append_right _ hx)) (fun x hx => hs x (List.mem_append_right _ hx)) h2

/-- a law's row behind a walk that ends in 'true' -/
theorem law_post {f : Func} {s : ChangeSpec} {W W' : World} {args : Array Value} {tb : TypeId} {ds gs : List (DataW H)} {before : List MemPlace}
    (hl : laidOutB P = true) (hr : (f.params.toList.all fun t => P.readableRec t && decide (t < P.types.size)) = true) (hv : s.vars = []) (hrt : f.resultTypes = #[tb]) (htb : P.underlying tb = some .bool)
    (hW : DataW.Whole enc P f.params.toList s.vars false W args.toList ds gs before)
    (hs : gs = [] → s.fn H (ds ++ gs) = { results := [.lit (.bool true)], args := ds })
    (hb : Below W.heap.size W W') : s.post enc P f false true false false W args (.bool true) W' := by
  have hlt : ∀ p ∈ before, p.block < W.heap.size := fun p hp => hW.lt p hp
  have hW' := hW
  obtain ⟨p, q, hA, hV, rfl, hfz, hnd⟩ := hW
  rw [hv] at hV
  obtain ⟨rfl, rfl⟩ := trodVars_none hV
  simp only [List.append_nil] at hlt
  have hf := hs rfl
  have hfv : (s.fn H (ds ++ [])).vars = [] := by rw [hf]
  have hr' : ∀ t ∈ f.params.toList, P.readableRec t = true ∧ t < P.types.size := fun t ht => by
    have := List.all_eq_true.1 hr t ht
    simpa using this
  refine ⟨ds, [], p ++ [], [], p, [], hW', ?_, ?_, ?_, ?_, fun h => by cases h⟩
  · rw [hf, hrt]
    exact trodAll_mk1 (shut_bool htb _)
  · rw [hf]
    exact trodAll_kept hl hb hr' hlt (fun x hx => by simpa using hlt x hx) hA
  · rw [hv, hfv]; exact rfl
  · exact hb.frame _

/-- a slice of structs whose fields are all ints: each field of each element by its place -/
theorem open_int_rows {w : World} {base : Nat} {spare : Nat → Bool} {held : Bool} {t e ti : TypeId} {fs : Array Field} {fuel : Nat} {cs : List Value} {x : DataW H × List MemPlace}
    (ht : P.underlying t = some (.slice e)) (he : P.underlying e = some (.struct fs)) (hone : oneCellFields P fs = true) (hC : P.cellsOf e = fs.size) (hti : P.underlying ti = some (.int .i64)) (hfs : (fs.toList.all fun f => f.type == ti) = true)
    (h : DataW.trod enc P w base spare held fuel t cs = some x) :
    ∃ (A : Option Addr) (len cap : Nat) (Z : Nat → Nat → Int), cs = [.slice A len cap] ∧ len ≤ maxLen ∧ len ≤ cap ∧
      ∀ i, i < len → ∀ j, j < fs.size → (Lit.int .i64 (Z i j)).wf = true ∧ ∃ b o, A = some ⟨b, o, none⟩ ∧ b < w.heap.size ∧ w.cell? ⟨b, o + i * fs.size + j, none⟩ = some (.int .i64 (Z i j)) := by
  rcases open_slice ht h with ⟨rfl, rfl⟩ | ⟨a, len, cap, m, n, D, Pl, rfl, hb, hl, hm, hmm, hx, hi⟩
  · exact ⟨none, 0, 0, fun _ _ => 0, rfl, by omega, by omega, fun i hi => by omega⟩
  have hlm : len ≤ m := by rw [hmm]; split <;> omega
  have key : ∀ i, i < len → ∀ j, j < fs.size → ∃ z, (Lit.int .i64 z).wf = true ∧ w.cell? (a.add (i * fs.size + j)) = some (.int .i64 z) := by
    intro i hil j hj
    obtain ⟨cs', hc, htr⟩ := hi i (by omega)
    rw [hC] at hc
    obtain ⟨ys, n', _, _, hlen, _, hf⟩ := DataW.trod_struct he htr
    obtain ⟨_, _, hat⟩ := World.cells?_some hc
    obtain ⟨ho, hk⟩ := hone_of hone j fs[j] (by simp [hj])
    have hty : fs[j].type = ti := by
      have := List.all_eq_true.1 hfs fs[j] (by simp)
      simpa using this
    have h1 := hf j fs[j] (by simp [hj])
    rw [ho, hk] at h1
    have hl' : cs'.length = fs.size := by rw [hlen, hC]
    have hd : (cs'.drop j).take 1 = [cs'[j]'(by omega)] := by
      rw [List.drop_eq_getElem_cons (by omega)]
      rfl
    rw [hd, hty] at h1
    have hys : ys[j]? = some (ys[j]'(by omega)) := List.getElem?_eq_getElem (by omega)
    obtain ⟨z, hz1, _, hwf⟩ := DataW.trod_int hti (h1.trans hys)
    refine ⟨z, hwf, ?_⟩
    rw [← Go.Deep.add_add, hat j hj, List.getElem?_eq_getElem (by omega)]
    simpa using hz1
  have hfun : ∃ Z : Nat → Nat → Int, ∀ i, i < len → ∀ j, j < fs.size → (Lit.int .i64 (Z i j)).wf = true ∧ w.cell? (a.add (i * fs.size + j)) = some (.int .i64 (Z i j)) := by
    classical
    refine ⟨fun i j => if hh : i < len ∧ j < fs.size then Classical.choose (key i hh.1 j hh.2) else 0, fun i hi' j hj => ?_⟩
    simp only [dif_pos (show i < len ∧ j < fs.size from ⟨hi', hj⟩)]
    exact Classical.choose_spec (key i hi' j hj)
  obtain ⟨Z, hZ⟩ := hfun
  refine ⟨some a, len, cap, Z, rfl, by omega, hl, fun i hi' j hj => ⟨(hZ i hi' j hj).1, a.block, a.off, ?_, ?_, ?_⟩⟩
  · have := (hZ i hi' j hj).2
    have hsp : a.spot = none := by
      obtain ⟨ab, ao, spo⟩ := a
      cases spo with
      | none => rfl
      | some s =>
        have h0 := (hZ i hi' 0 (by omega)).2
        have h00 := (hZ 0 (by omega) 0 (by omega)).2
        simp [Addr.add, World.cell?] at h00
        split at h00 <;> simp_all
    cases a; simp_all
  · have := block_lt_of_cell (hZ i hi' j hj).2
    unfold Addr.add at this
    split at this <;> exact this
  · have h1 := (hZ i hi' j hj).2
    have h0 := (hZ 0 (by omega) 0 (by omega)).2
    rw [← h1]
    congr 1
    unfold Addr.add
    split
    · rename_i h2
      obtain ⟨ab, ao, spo⟩ := a
      cases spo with
      | none => simp; omega
      | some s => simp [Addr.add, World.cell?] at h0; split at h0 <;> simp_all
    · simp [Nat.add_assoc]
end

/-- the rows so opened read as a list of whatever is made of their fields -/
theorem rdE_of_rows {α : Type} {w : World} {A : Option Addr} {n m : Nat} {Z : Nat → Nat → Int} (mk : (Nat → Int) → α) (enc : α → List Value) (hm : 0 < m)
    (henc : ∀ z : Nat → Int, ∀ j v, (enc (mk z))[j]? = some v → j < m ∧ v = .int .i64 (z j))
    (hZ : ∀ i, i < n → ∀ j, j < m → (Lit.int .i64 (Z i j)).wf = true ∧ ∃ b o, A = some ⟨b, o, none⟩ ∧ b < w.heap.size ∧ w.cell? ⟨b, o + i * m + j, none⟩ = some (.int .i64 (Z i j))) :
    RdE enc m w A ((List.range n).map fun i => mk (Z i)) := by
  intro i x hx
  have hi : i < n := by
    have := (List.getElem?_eq_some_iff.1 hx).1
    simpa using this
  have hx' : mk (Z i) = x := by simpa [hi] using hx
  subst hx'
  obtain ⟨_, b, o, e1, e2, _⟩ := hZ i hi 0 hm
  refine ⟨b, o, e1, e2, fun j v hv => ?_⟩
  obtain ⟨hj, rfl⟩ := henc _ _ _ hv
  obtain ⟨_, b', o', f1, _, f3⟩ := hZ i hi j hj
  obtain ⟨rfl, rfl⟩ : b = b' ∧ o = o' := by rw [e1] at f1; simpa using f1
  exact f3

/-- a slice of ints as rows of one -/
theorem open_int_list {H : Type} {enc : TypeId × Value → H} {P : Program} {w : World} {base : Nat} {spare : Nat → Bool} {held : Bool} {t e : TypeId} {fuel : Nat} {cs : List Value} {x : DataW H × List MemPlace}
    (ht : P.underlying t = some (.slice e)) (he : P.underlying e = some (.int .i64)) (hc : P.cellsOf e = 1)
    (h : DataW.trod enc P w base spare held fuel t cs = some x) :
    ∃ (A : Option Addr) (len cap : Nat) (Z : Nat → Nat → Int), cs = [.slice A len cap] ∧ len ≤ maxLen ∧ len ≤ cap ∧
      ∀ i, i < len → ∀ j, j < 1 → (Lit.int .i64 (Z i j)).wf = true ∧ ∃ b o, A = some ⟨b, o, none⟩ ∧ b < w.heap.size ∧ w.cell? ⟨b, o + i * 1 + j, none⟩ = some (.int .i64 (Z i j)) := by
  rcases open_ints ht he hc h with ⟨rfl, rfl⟩ | ⟨a, len, cap, zs, rfl, hb, hl, hm, hzl, hx, hat, hwf⟩
  · exact ⟨none, 0, 0, fun _ _ => 0, rfl, by omega, by omega, fun i hi => by omega⟩
  have hlz : len ≤ zs.length := by rw [hzl]; split <;> omega
  refine ⟨some a, len, cap, fun i _ => zs.getD i 0, rfl, by omega, hl, fun i hi j hj => ⟨hwf _ (by show zs.getD i 0 ∈ zs; rw [List.getD_eq_getElem?_getD, List.getElem?_eq_getElem (by omega)]; exact List.getElem_mem _), a.block, a.off, ?_, ?_, ?_⟩⟩
  · have h0 := hat 0 (by omega)
    obtain ⟨ab, ao, spo⟩ := a
    cases spo with
    | none => rfl
    | some s => simp [Addr.add, World.cell?] at h0; split at h0 <;> simp_all
  · have := block_lt_of_cell (hat i (by omega))
    unfold Addr.add at this
    split at this <;> exact this
  · have h0 := hat 0 (by omega)
    rw [← hat i (by omega)]
    congr 1
    obtain ⟨ab, ao, spo⟩ := a
    cases spo with
    | none =>
      obtain rfl : j = 0 := by omega
      simp [Addr.add]
    | some s => simp [Addr.add, World.cell?] at h0; split at h0 <;> simp_all
/-- and read as the list -/
theorem rdE_of_list {w : World} {A : Option Addr} {n : Nat} {Z : Nat → Nat → Int}
    (hZ : ∀ i, i < n → ∀ j, j < 1 → (Lit.int .i64 (Z i j)).wf = true ∧ ∃ b o, A = some ⟨b, o, none⟩ ∧ b < w.heap.size ∧ w.cell? ⟨b, o + i * 1 + j, none⟩ = some (.int .i64 (Z i j))) :
    RdE (fun z : Int => [.int .i64 z]) 1 w A ((List.range n).map fun i => Z i 0) :=
  rdE_of_rows (fun z => z 0) _ (by decide) (fun z j v hv => by
    match j, hv with
    | 0, hv => exact ⟨by decide, by simpa using hv.symm⟩
    | j + 1, hv => simp at hv) hZ

theorem own : ownKnob Try.prog.godebug = none := by kernel_rfl
theorem laidOut : laidOutB Try.prog = true := by kernel_rfl
end Go.Proofs.Ytiimjppceobkfaa
