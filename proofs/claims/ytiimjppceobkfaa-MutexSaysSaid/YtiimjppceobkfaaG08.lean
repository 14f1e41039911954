/- Lemmas for the walks (Mut3, Mut3b, P). No condition. -/
import Derived.Test.YtiimjppceobkfaaG06
import Derived.Test.YtiimjppceobkfaaG07
import Derived.Test.YtiimjppceobkfaaG05
set_option linter.unusedSimpArgs false
set_option linter.unusedVariables false
set_option linter.unusedSectionVars false
set_option linter.unnecessarySimpa false
namespace Go.Proofs.Ytiimjppceobkfaa
open Go.RowKit

def outT (n t : Int) : Bool := decide (t < 0) || decide (n ≤ t)
def headG (algo n turns : Int) : Prop := algo < 1 ∨ 4 < algo ∨ n < 1 ∨ 4 < n ∨ (algo = 1 ∧ n ≠ 2) ∨ turns < 0 ∨ 5 < turns
instance (algo n turns : Int) : Decidable (headG algo n turns) := by unfold headG; infer_instance
def gatesE (algo n turns : Int) (l : List Int) : Int := if headG algo n turns then 1 else if 600 < l.length then 2 else if l.any (outT n) then 1 else 0
theorem gates_head {algo n turns : Int} {l : List Int} (h : headG algo n turns) : gatesE algo n turns l = 1 := if_pos h
theorem gates_long {algo n turns : Int} {l : List Int} (h : ¬ headG algo n turns) (hl : 600 < l.length) : gatesE algo n turns l = 2 := by rw [gatesE, if_neg h, if_pos hl]
theorem gates_list {algo n turns : Int} {l : List Int} (h : ¬ headG algo n turns) (hl : ¬ 600 < l.length) {k : Nat} (hk : k < l.length) (hb : outT n l[k] = true) : gatesE algo n turns l = 1 := by
  rw [gatesE, if_neg h, if_neg hl, if_pos (List.any_eq_true.2 ⟨l[k], List.getElem_mem _, hb⟩)]
theorem gates_ok {algo n turns : Int} {l : List Int} (h : ¬ headG algo n turns) (hl : ¬ 600 < l.length) (ht : ∀ k (hk : k < l.length), outT n l[k] = false) : gatesE algo n turns l = 0 := by
  rw [gatesE, if_neg h, if_neg hl, if_neg]
  rw [Bool.not_eq_true, List.any_eq_false]
  intro x hx
  obtain ⟨k, hk, rfl⟩ := List.getElem_of_mem hx
  rw [ht k hk]; exact Bool.false_ne_true
theorem outT_yes {n v : Int} (h : v < 0 ∨ n ≤ v) : outT n v = true := by simpa [outT] using h
theorem outT_no {n v : Int} (h1 : 0 ≤ v) (h2 : v < n) : outT n v = false := by simp [outT]; omega
theorem gates_inv {algo n turns : Int} {l : List Int} (h : gatesE algo n turns l = 0) : ¬ headG algo n turns ∧ l.length ≤ 600 ∧ ∀ k (hk : k < l.length), 0 ≤ l[k] ∧ l[k] < n := by
  unfold gatesE at h
  split at h
  · cases h
  · rename_i hh
    split at h
    · cases h
    · split at h
      · cases h
      · rename_i ht
        rw [Bool.not_eq_true, List.any_eq_false] at ht
        refine ⟨hh, by omega, fun k hk => ?_⟩
        have := ht l[k] (List.getElem_mem _)
        simp [outT] at this; omega
theorem upto_nx {p : Int → Bool} {l : List Int} {k : Nat} (hno : ∀ j (hj : j < l.length), j < k → p l[j] = false) (h : ∀ hk : k < l.length, p l[k] = false) : ∀ j (hj : j < l.length), j < k + 1 → p l[j] = false := fun j hj hjk => by
  by_cases e : j = k
  · subst e; exact h hj
  · exact hno j hj (by omega)
section
variable (algo n turns : Int) (B : Option Addr) (l : List Int) (d : Nat) (w : World) (hl : l.length ≤ 9223372036854775807) (hB : RdInt w B l)
include hl hB
set_option maxRecDepth 100000 in
set_option maxHeartbeats 4000000 in
theorem mutexCheck_any : Calls Try.prog 71 #[.int .i64 algo, .int .i64 n, .int .i64 turns, .slice B l.length d] w fun e w' => e = .returned (.int .i64 (gatesE algo n turns l)) ∧ Below w.heap.size w w' := by
  by_cases hh : headG algo n turns
  · have hv := gates_head (l := l) hh
    unfold headG at hh
    refine calls_T (S := []) [] Try.func71 rfl Try.ntmps71 (by simp) (Mem.nil _) ?_
    repeat' (first | ((first | with_reducible (first | apply TL_q | apply TD_q0 | apply TD_q1 | apply TD_q2 | apply TD_q3) | ((with_reducible (first | apply TD_q0y | apply TD_q1y)); exact rfl; exact rfl; (with_reducible exact rfl))); (first | ((with_reducible apply QS_load); exact rfl; exact Lds.ownSet (by first | ((repeat (first | with_reducible exact List.mem_cons_self | with_reducible apply List.mem_cons_of_mem)); done) | (repeat (first | exact List.Mem.head _ | apply List.Mem.tail))) (fun _ => rfl) (by omega) (by rw [Pr.enc_mk]; rfl)) | ((with_reducible apply QS_load); exact rfl; exact Lds.ownSet0 (by first | ((repeat (first | with_reducible exact List.mem_cons_self | with_reducible apply List.mem_cons_of_mem)); done) | (repeat (first | exact List.Mem.head _ | apply List.Mem.tail))) (fun _ => rfl) (by omega) (by rw [Pr.enc_mk]; rfl)) | exact QS.auto); exact rfl) | ((with_reducible (first | apply TD_e2z | apply TD_e3z | apply TL_e | apply TD_e2 | apply TD_e3)); (first | ((with_reducible apply ES_storeOwn (enc := Pr.enc)); exact rfl; exact rfl; (first | ((repeat (first | with_reducible exact Upd.here _ _ _ | with_reducible apply Upd.there)); done) | (repeat (first | exact Upd.here _ _ _ | apply Upd.there))); exact fun _ => rfl; ((first | exact List.getElem?_set_self (by first | assumption | omega) | exact List.getElem?_eq_getElem (by first | assumption | omega | (simp only [List.length_set]; omega)))); decide; exact Pr.enc_mk _ _ _ _ _; exact rfl) | ((with_reducible apply ES_storeOwn0 (enc := Pr.enc)); exact rfl; exact rfl; (first | ((repeat (first | with_reducible exact Upd.here _ _ _ | with_reducible apply Upd.there)); done) | (repeat (first | exact Upd.here _ _ _ | apply Upd.there))); exact fun _ => rfl; ((first | exact List.getElem?_set_self (by first | assumption | omega) | exact List.getElem?_eq_getElem (by first | assumption | omega | (simp only [List.length_set]; omega)))); decide; exact Pr.enc_mk _ _ _ _ _; exact rfl) | exact ES.auto); (first | exact rfl | exact ⟨rfl, rfl, rfl⟩); (first | (rintro _ _ ⟨rfl, rfl⟩) | (rintro _ _ ⟨g, rfl, rfl⟩) | (rintro _ _ ⟨A', c', rfl, rfl⟩)); (try refine ⟨SUB, ?_⟩)) | (refine GO ?_) | (refine GOE ?_; (first | (rintro _ _ ⟨rfl, rfl⟩) | (rintro _ _ ⟨g, rfl, rfl⟩) | (rintro _ _ ⟨A', c', rfl, rfl⟩))) | ((refine GO2 ?_ ?_) <;> intro h <;> (try (repeat (first | with_reducible (replace h := of_decide_eq_true h) | with_reducible (replace h := of_decide_eq_false h) | with_reducible (replace h := bnt h) | with_reducible (replace h := bnf h) | with_reducible (replace h := Int.not_lt.mp h) | with_reducible (replace h := Int.not_le.mp h) | with_reducible (replace h := band_dec h) | with_reducible (replace h := band_decF h) | with_reducible (replace h := bor_dec h) | with_reducible (replace h := bor_decF h)))) <;> (try (exfalso; first | contradiction | omega))) | fail)
    all_goals
      (refine At_ret Try.results71 rfl (fun w' hw => ?_))
      exact ⟨by rw [hv]; rfl, hw.below0 rfl⟩
  · have hg : 1 ≤ algo ∧ algo ≤ 4 ∧ 1 ≤ n ∧ n ≤ 4 ∧ (algo = 1 → n = 2) ∧ 0 ≤ turns ∧ turns ≤ 5 := by unfold headG at hh; omega
    obtain ⟨g1, g2, g3, g4, g5, g6, g7⟩ := hg
    refine calls_T (S := []) [] Try.func71 rfl Try.ntmps71 (by simp) (Mem.nil _) ?_
    by_cases ga : algo = 1
    all_goals
      repeat' (first | ((first | with_reducible (first | apply TL_q | apply TD_q0 | apply TD_q1 | apply TD_q2 | apply TD_q3) | ((with_reducible (first | apply TD_q0y | apply TD_q1y)); exact rfl; exact rfl; (with_reducible exact rfl))); (first | ((with_reducible apply QS_load); exact rfl; exact Lds.ownSet (by first | ((repeat (first | with_reducible exact List.mem_cons_self | with_reducible apply List.mem_cons_of_mem)); done) | (repeat (first | exact List.Mem.head _ | apply List.Mem.tail))) (fun _ => rfl) (by omega) (by rw [Pr.enc_mk]; rfl)) | ((with_reducible apply QS_load); exact rfl; exact Lds.ownSet0 (by first | ((repeat (first | with_reducible exact List.mem_cons_self | with_reducible apply List.mem_cons_of_mem)); done) | (repeat (first | exact List.Mem.head _ | apply List.Mem.tail))) (fun _ => rfl) (by omega) (by rw [Pr.enc_mk]; rfl)) | exact QS.auto); exact rfl) | ((with_reducible (first | apply TD_e2z | apply TD_e3z | apply TL_e | apply TD_e2 | apply TD_e3)); (first | ((with_reducible apply ES_storeOwn (enc := Pr.enc)); exact rfl; exact rfl; (first | ((repeat (first | with_reducible exact Upd.here _ _ _ | with_reducible apply Upd.there)); done) | (repeat (first | exact Upd.here _ _ _ | apply Upd.there))); exact fun _ => rfl; ((first | exact List.getElem?_set_self (by first | assumption | omega) | exact List.getElem?_eq_getElem (by first | assumption | omega | (simp only [List.length_set]; omega)))); decide; exact Pr.enc_mk _ _ _ _ _; exact rfl) | ((with_reducible apply ES_storeOwn0 (enc := Pr.enc)); exact rfl; exact rfl; (first | ((repeat (first | with_reducible exact Upd.here _ _ _ | with_reducible apply Upd.there)); done) | (repeat (first | exact Upd.here _ _ _ | apply Upd.there))); exact fun _ => rfl; ((first | exact List.getElem?_set_self (by first | assumption | omega) | exact List.getElem?_eq_getElem (by first | assumption | omega | (simp only [List.length_set]; omega)))); decide; exact Pr.enc_mk _ _ _ _ _; exact rfl) | exact ES.auto); (first | exact rfl | exact ⟨rfl, rfl, rfl⟩); (first | (rintro _ _ ⟨rfl, rfl⟩) | (rintro _ _ ⟨g, rfl, rfl⟩) | (rintro _ _ ⟨A', c', rfl, rfl⟩)); (try refine ⟨SUB, ?_⟩)) | (refine GO ?_) | (refine GOE ?_; (first | (rintro _ _ ⟨rfl, rfl⟩) | (rintro _ _ ⟨g, rfl, rfl⟩) | (rintro _ _ ⟨A', c', rfl, rfl⟩))) | ((refine GO2 ?_ ?_) <;> intro h <;> (try (repeat (first | with_reducible (replace h := of_decide_eq_true h) | with_reducible (replace h := of_decide_eq_false h) | with_reducible (replace h := bnt h) | with_reducible (replace h := bnf h) | with_reducible (replace h := Int.not_lt.mp h) | with_reducible (replace h := Int.not_le.mp h) | with_reducible (replace h := band_dec h) | with_reducible (replace h := band_decF h) | with_reducible (replace h := bor_dec h) | with_reducible (replace h := bor_decF h)))) <;> (try (exfalso; first | contradiction | omega))) | fail)
      · (refine At_ret Try.results71 rfl (fun w' hw => ?_))
        exact ⟨by rw [gates_long hh (by omega)]; rfl, hw.below0 rfl⟩
      · have hl3 : ¬ 600 < l.length := by omega
        refine T_loop (X := Nat) (fun q => [(46, .int .i64 (q : Nat)), (45, .int .i64 l.length), (44, .slice B l.length d), (1, .int .i64 n)]) (fun _ => [])
          (fun q => q ≤ l.length ∧ ∀ j (hj : j < l.length), j < q → outT n l[j] = false) (fun q => l.length - q) 0 ⟨by omega, fun j hj h => by omega⟩ (by (repeat (first | exact SubE.nil _ | refine SubE.cons rfl ?_))) (by exact SUBS) ?_
        rintro q ⟨hq, hnq⟩
        by_cases hql : q < l.length
        · obtain ⟨b, o, rfl, _⟩ := RdE.open hB (by omega)
          repeat' (first | ((first | with_reducible (first | apply TL_q | apply TD_q0 | apply TD_q1 | apply TD_q2 | apply TD_q3) | ((with_reducible (first | apply TD_q0y | apply TD_q1y)); exact rfl; exact rfl; (with_reducible exact rfl))); (first | ((with_reducible apply QS_load); exact rfl; exact Lds.ownSet (by first | ((repeat (first | with_reducible exact List.mem_cons_self | with_reducible apply List.mem_cons_of_mem)); done) | (repeat (first | exact List.Mem.head _ | apply List.Mem.tail))) (fun _ => rfl) (by omega) (by rw [Pr.enc_mk]; rfl)) | ((with_reducible apply QS_load); exact rfl; exact Lds.ownSet0 (by first | ((repeat (first | with_reducible exact List.mem_cons_self | with_reducible apply List.mem_cons_of_mem)); done) | (repeat (first | exact List.Mem.head _ | apply List.Mem.tail))) (fun _ => rfl) (by omega) (by rw [Pr.enc_mk]; rfl)) | exact QS.auto); exact rfl) | ((with_reducible (first | apply TD_e2z | apply TD_e3z | apply TL_e | apply TD_e2 | apply TD_e3)); (first | ((with_reducible apply ES_storeOwn (enc := Pr.enc)); exact rfl; exact rfl; (first | ((repeat (first | with_reducible exact Upd.here _ _ _ | with_reducible apply Upd.there)); done) | (repeat (first | exact Upd.here _ _ _ | apply Upd.there))); exact fun _ => rfl; ((first | exact List.getElem?_set_self (by first | assumption | omega) | exact List.getElem?_eq_getElem (by first | assumption | omega | (simp only [List.length_set]; omega)))); decide; exact Pr.enc_mk _ _ _ _ _; exact rfl) | ((with_reducible apply ES_storeOwn0 (enc := Pr.enc)); exact rfl; exact rfl; (first | ((repeat (first | with_reducible exact Upd.here _ _ _ | with_reducible apply Upd.there)); done) | (repeat (first | exact Upd.here _ _ _ | apply Upd.there))); exact fun _ => rfl; ((first | exact List.getElem?_set_self (by first | assumption | omega) | exact List.getElem?_eq_getElem (by first | assumption | omega | (simp only [List.length_set]; omega)))); decide; exact Pr.enc_mk _ _ _ _ _; exact rfl) | exact ES.auto); (first | exact rfl | exact ⟨rfl, rfl, rfl⟩); (first | (rintro _ _ ⟨rfl, rfl⟩) | (rintro _ _ ⟨g, rfl, rfl⟩) | (rintro _ _ ⟨A', c', rfl, rfl⟩)); (try refine ⟨SUB, ?_⟩)) | (refine GO ?_) | (refine GOE ?_; (first | (rintro _ _ ⟨rfl, rfl⟩) | (rintro _ _ ⟨g, rfl, rfl⟩) | (rintro _ _ ⟨A', c', rfl, rfl⟩))) | ((refine GO2 ?_ ?_) <;> intro h <;> (try (repeat (first | with_reducible (replace h := of_decide_eq_true h) | with_reducible (replace h := of_decide_eq_false h) | with_reducible (replace h := bnt h) | with_reducible (replace h := bnf h) | with_reducible (replace h := Int.not_lt.mp h) | with_reducible (replace h := Int.not_le.mp h) | with_reducible (replace h := band_dec h) | with_reducible (replace h := band_decF h) | with_reducible (replace h := bor_dec h) | with_reducible (replace h := bor_decF h)))) <;> (try (exfalso; first | contradiction | omega))) | fail)
          all_goals first
            | (have hb : outT n l[q] = true := outT_yes (by omega)
               (refine At_ret Try.results71 rfl (fun w' hw => ?_))
               exact ⟨by rw [gates_list hh hl3 hql hb]; rfl, hw.below0 rfl⟩)
            | (have hb : outT n l[q] = false := outT_no (by omega) (by omega)
               (refine At_rounds (q + 1) ?_ ?_ ?_ ?_; (exact ⟨by omega, upto_nx hnq (fun _ => hb)⟩); (omega); ((repeat (first | exact SubE.nil _ | refine SubE.cons rfl ?_))); (exact SUBS)))
        · obtain rfl : q = l.length := by omega
          repeat' (first | ((first | with_reducible (first | apply TL_q | apply TD_q0 | apply TD_q1 | apply TD_q2 | apply TD_q3) | ((with_reducible (first | apply TD_q0y | apply TD_q1y)); exact rfl; exact rfl; (with_reducible exact rfl))); (first | ((with_reducible apply QS_load); exact rfl; exact Lds.ownSet (by first | ((repeat (first | with_reducible exact List.mem_cons_self | with_reducible apply List.mem_cons_of_mem)); done) | (repeat (first | exact List.Mem.head _ | apply List.Mem.tail))) (fun _ => rfl) (by omega) (by rw [Pr.enc_mk]; rfl)) | ((with_reducible apply QS_load); exact rfl; exact Lds.ownSet0 (by first | ((repeat (first | with_reducible exact List.mem_cons_self | with_reducible apply List.mem_cons_of_mem)); done) | (repeat (first | exact List.Mem.head _ | apply List.Mem.tail))) (fun _ => rfl) (by omega) (by rw [Pr.enc_mk]; rfl)) | exact QS.auto); exact rfl) | ((with_reducible (first | apply TD_e2z | apply TD_e3z | apply TL_e | apply TD_e2 | apply TD_e3)); (first | ((with_reducible apply ES_storeOwn (enc := Pr.enc)); exact rfl; exact rfl; (first | ((repeat (first | with_reducible exact Upd.here _ _ _ | with_reducible apply Upd.there)); done) | (repeat (first | exact Upd.here _ _ _ | apply Upd.there))); exact fun _ => rfl; ((first | exact List.getElem?_set_self (by first | assumption | omega) | exact List.getElem?_eq_getElem (by first | assumption | omega | (simp only [List.length_set]; omega)))); decide; exact Pr.enc_mk _ _ _ _ _; exact rfl) | ((with_reducible apply ES_storeOwn0 (enc := Pr.enc)); exact rfl; exact rfl; (first | ((repeat (first | with_reducible exact Upd.here _ _ _ | with_reducible apply Upd.there)); done) | (repeat (first | exact Upd.here _ _ _ | apply Upd.there))); exact fun _ => rfl; ((first | exact List.getElem?_set_self (by first | assumption | omega) | exact List.getElem?_eq_getElem (by first | assumption | omega | (simp only [List.length_set]; omega)))); decide; exact Pr.enc_mk _ _ _ _ _; exact rfl) | exact ES.auto); (first | exact rfl | exact ⟨rfl, rfl, rfl⟩); (first | (rintro _ _ ⟨rfl, rfl⟩) | (rintro _ _ ⟨g, rfl, rfl⟩) | (rintro _ _ ⟨A', c', rfl, rfl⟩)); (try refine ⟨SUB, ?_⟩)) | (refine GO ?_) | (refine GOE ?_; (first | (rintro _ _ ⟨rfl, rfl⟩) | (rintro _ _ ⟨g, rfl, rfl⟩) | (rintro _ _ ⟨A', c', rfl, rfl⟩))) | ((refine GO2 ?_ ?_) <;> intro h <;> (try (repeat (first | with_reducible (replace h := of_decide_eq_true h) | with_reducible (replace h := of_decide_eq_false h) | with_reducible (replace h := bnt h) | with_reducible (replace h := bnf h) | with_reducible (replace h := Int.not_lt.mp h) | with_reducible (replace h := Int.not_le.mp h) | with_reducible (replace h := band_dec h) | with_reducible (replace h := band_decF h) | with_reducible (replace h := bor_dec h) | with_reducible (replace h := bor_decF h)))) <;> (try (exfalso; first | contradiction | omega))) | fail)
          (refine At_ret Try.results71 rfl (fun w' hw => ?_))
          exact ⟨by rw [gates_ok hh hl3 (fun j hj => hnq j hj hj)]; rfl, hw.below0 rfl⟩
set_option maxRecDepth 100000 in
set_option maxHeartbeats 4000000 in
theorem gatesRight_any : Calls Try.prog 16 #[.int .i64 algo, .int .i64 n, .int .i64 turns, .slice B l.length d] w fun e w' => e = .returned (.int .i64 (gatesE algo n turns l)) ∧ Below w.heap.size w w' := by
  by_cases hh : headG algo n turns
  · have hv := gates_head (l := l) hh
    unfold headG at hh
    refine calls_T (S := []) [] Try.func16 rfl Try.ntmps16 (by simp) (Mem.nil _) ?_
    repeat' (first | ((first | with_reducible (first | apply TL_q | apply TD_q0 | apply TD_q1 | apply TD_q2 | apply TD_q3) | ((with_reducible (first | apply TD_q0y | apply TD_q1y)); exact rfl; exact rfl; (with_reducible exact rfl))); (first | ((with_reducible apply QS_load); exact rfl; exact Lds.ownSet (by first | ((repeat (first | with_reducible exact List.mem_cons_self | with_reducible apply List.mem_cons_of_mem)); done) | (repeat (first | exact List.Mem.head _ | apply List.Mem.tail))) (fun _ => rfl) (by omega) (by rw [Pr.enc_mk]; rfl)) | ((with_reducible apply QS_load); exact rfl; exact Lds.ownSet0 (by first | ((repeat (first | with_reducible exact List.mem_cons_self | with_reducible apply List.mem_cons_of_mem)); done) | (repeat (first | exact List.Mem.head _ | apply List.Mem.tail))) (fun _ => rfl) (by omega) (by rw [Pr.enc_mk]; rfl)) | exact QS.auto); exact rfl) | ((with_reducible (first | apply TD_e2z | apply TD_e3z | apply TL_e | apply TD_e2 | apply TD_e3)); (first | ((with_reducible apply ES_storeOwn (enc := Pr.enc)); exact rfl; exact rfl; (first | ((repeat (first | with_reducible exact Upd.here _ _ _ | with_reducible apply Upd.there)); done) | (repeat (first | exact Upd.here _ _ _ | apply Upd.there))); exact fun _ => rfl; ((first | exact List.getElem?_set_self (by first | assumption | omega) | exact List.getElem?_eq_getElem (by first | assumption | omega | (simp only [List.length_set]; omega)))); decide; exact Pr.enc_mk _ _ _ _ _; exact rfl) | ((with_reducible apply ES_storeOwn0 (enc := Pr.enc)); exact rfl; exact rfl; (first | ((repeat (first | with_reducible exact Upd.here _ _ _ | with_reducible apply Upd.there)); done) | (repeat (first | exact Upd.here _ _ _ | apply Upd.there))); exact fun _ => rfl; ((first | exact List.getElem?_set_self (by first | assumption | omega) | exact List.getElem?_eq_getElem (by first | assumption | omega | (simp only [List.length_set]; omega)))); decide; exact Pr.enc_mk _ _ _ _ _; exact rfl) | exact ES.auto); (first | exact rfl | exact ⟨rfl, rfl, rfl⟩); (first | (rintro _ _ ⟨rfl, rfl⟩) | (rintro _ _ ⟨g, rfl, rfl⟩) | (rintro _ _ ⟨A', c', rfl, rfl⟩)); (try refine ⟨SUB, ?_⟩)) | (refine GO ?_) | (refine GOE ?_; (first | (rintro _ _ ⟨rfl, rfl⟩) | (rintro _ _ ⟨g, rfl, rfl⟩) | (rintro _ _ ⟨A', c', rfl, rfl⟩))) | ((refine GO2 ?_ ?_) <;> intro h <;> (try (repeat (first | with_reducible (replace h := of_decide_eq_true h) | with_reducible (replace h := of_decide_eq_false h) | with_reducible (replace h := bnt h) | with_reducible (replace h := bnf h) | with_reducible (replace h := Int.not_lt.mp h) | with_reducible (replace h := Int.not_le.mp h) | with_reducible (replace h := band_dec h) | with_reducible (replace h := band_decF h) | with_reducible (replace h := bor_dec h) | with_reducible (replace h := bor_decF h)))) <;> (try (exfalso; first | contradiction | omega))) | ((with_reducible (first | apply TD_e2z | apply TD_e3z | apply TL_e | apply TD_e2 | apply TD_e3)); ((with_reducible apply ES_callV); exact rfl; (intro w hw; exact Calls.same_below (between_any _ _ _ _)); exact rfl); (first | exact rfl | exact ⟨rfl, rfl, rfl⟩); (rintro _ _ ⟨rfl, rfl⟩); (try refine ⟨SUB, ?_⟩)) | fail)
    all_goals
      (refine At_ret Try.results16 rfl (fun w' hw => ?_))
      exact ⟨by rw [hv]; rfl, hw.below0 rfl⟩
  · have hg : 1 ≤ algo ∧ algo ≤ 4 ∧ 1 ≤ n ∧ n ≤ 4 ∧ (algo = 1 → n = 2) ∧ 0 ≤ turns ∧ turns ≤ 5 := by unfold headG at hh; omega
    obtain ⟨g1, g2, g3, g4, g5, g6, g7⟩ := hg
    refine calls_T (S := []) [] Try.func16 rfl Try.ntmps16 (by simp) (Mem.nil _) ?_
    by_cases ga : algo = 1
    all_goals
      repeat' (first | ((first | with_reducible (first | apply TL_q | apply TD_q0 | apply TD_q1 | apply TD_q2 | apply TD_q3) | ((with_reducible (first | apply TD_q0y | apply TD_q1y)); exact rfl; exact rfl; (with_reducible exact rfl))); (first | ((with_reducible apply QS_load); exact rfl; exact Lds.ownSet (by first | ((repeat (first | with_reducible exact List.mem_cons_self | with_reducible apply List.mem_cons_of_mem)); done) | (repeat (first | exact List.Mem.head _ | apply List.Mem.tail))) (fun _ => rfl) (by omega) (by rw [Pr.enc_mk]; rfl)) | ((with_reducible apply QS_load); exact rfl; exact Lds.ownSet0 (by first | ((repeat (first | with_reducible exact List.mem_cons_self | with_reducible apply List.mem_cons_of_mem)); done) | (repeat (first | exact List.Mem.head _ | apply List.Mem.tail))) (fun _ => rfl) (by omega) (by rw [Pr.enc_mk]; rfl)) | exact QS.auto); exact rfl) | ((with_reducible (first | apply TD_e2z | apply TD_e3z | apply TL_e | apply TD_e2 | apply TD_e3)); (first | ((with_reducible apply ES_storeOwn (enc := Pr.enc)); exact rfl; exact rfl; (first | ((repeat (first | with_reducible exact Upd.here _ _ _ | with_reducible apply Upd.there)); done) | (repeat (first | exact Upd.here _ _ _ | apply Upd.there))); exact fun _ => rfl; ((first | exact List.getElem?_set_self (by first | assumption | omega) | exact List.getElem?_eq_getElem (by first | assumption | omega | (simp only [List.length_set]; omega)))); decide; exact Pr.enc_mk _ _ _ _ _; exact rfl) | ((with_reducible apply ES_storeOwn0 (enc := Pr.enc)); exact rfl; exact rfl; (first | ((repeat (first | with_reducible exact Upd.here _ _ _ | with_reducible apply Upd.there)); done) | (repeat (first | exact Upd.here _ _ _ | apply Upd.there))); exact fun _ => rfl; ((first | exact List.getElem?_set_self (by first | assumption | omega) | exact List.getElem?_eq_getElem (by first | assumption | omega | (simp only [List.length_set]; omega)))); decide; exact Pr.enc_mk _ _ _ _ _; exact rfl) | exact ES.auto); (first | exact rfl | exact ⟨rfl, rfl, rfl⟩); (first | (rintro _ _ ⟨rfl, rfl⟩) | (rintro _ _ ⟨g, rfl, rfl⟩) | (rintro _ _ ⟨A', c', rfl, rfl⟩)); (try refine ⟨SUB, ?_⟩)) | (refine GO ?_) | (refine GOE ?_; (first | (rintro _ _ ⟨rfl, rfl⟩) | (rintro _ _ ⟨g, rfl, rfl⟩) | (rintro _ _ ⟨A', c', rfl, rfl⟩))) | ((refine GO2 ?_ ?_) <;> intro h <;> (try (repeat (first | with_reducible (replace h := of_decide_eq_true h) | with_reducible (replace h := of_decide_eq_false h) | with_reducible (replace h := bnt h) | with_reducible (replace h := bnf h) | with_reducible (replace h := Int.not_lt.mp h) | with_reducible (replace h := Int.not_le.mp h) | with_reducible (replace h := band_dec h) | with_reducible (replace h := band_decF h) | with_reducible (replace h := bor_dec h) | with_reducible (replace h := bor_decF h)))) <;> (try (exfalso; first | contradiction | omega))) | ((with_reducible (first | apply TD_e2z | apply TD_e3z | apply TL_e | apply TD_e2 | apply TD_e3)); ((with_reducible apply ES_callV); exact rfl; (intro w hw; exact Calls.same_below (between_any _ _ _ _)); exact rfl); (first | exact rfl | exact ⟨rfl, rfl, rfl⟩); (rintro _ _ ⟨rfl, rfl⟩); (try refine ⟨SUB, ?_⟩)) | fail)
      · (refine At_ret Try.results16 rfl (fun w' hw => ?_))
        exact ⟨by rw [gates_long hh (by omega)]; rfl, hw.below0 rfl⟩
      · have hl3 : ¬ 600 < l.length := by omega
        refine T_loop (X := Nat) (fun q => [(37, .int .i64 (q : Nat)), (36, .int .i64 l.length), (35, .slice B l.length d), (1, .int .i64 n)]) (fun _ => [])
          (fun q => q ≤ l.length ∧ ∀ j (hj : j < l.length), j < q → outT n l[j] = false) (fun q => l.length - q) 0 ⟨by omega, fun j hj h => by omega⟩ (by (repeat (first | exact SubE.nil _ | refine SubE.cons rfl ?_))) (by exact SUBS) ?_
        rintro q ⟨hq, hnq⟩
        by_cases hql : q < l.length
        · obtain ⟨b, o, rfl, _⟩ := RdE.open hB (by omega)
          repeat' (first | ((first | with_reducible (first | apply TL_q | apply TD_q0 | apply TD_q1 | apply TD_q2 | apply TD_q3) | ((with_reducible (first | apply TD_q0y | apply TD_q1y)); exact rfl; exact rfl; (with_reducible exact rfl))); (first | ((with_reducible apply QS_load); exact rfl; exact Lds.ownSet (by first | ((repeat (first | with_reducible exact List.mem_cons_self | with_reducible apply List.mem_cons_of_mem)); done) | (repeat (first | exact List.Mem.head _ | apply List.Mem.tail))) (fun _ => rfl) (by omega) (by rw [Pr.enc_mk]; rfl)) | ((with_reducible apply QS_load); exact rfl; exact Lds.ownSet0 (by first | ((repeat (first | with_reducible exact List.mem_cons_self | with_reducible apply List.mem_cons_of_mem)); done) | (repeat (first | exact List.Mem.head _ | apply List.Mem.tail))) (fun _ => rfl) (by omega) (by rw [Pr.enc_mk]; rfl)) | exact QS.auto); exact rfl) | ((with_reducible (first | apply TD_e2z | apply TD_e3z | apply TL_e | apply TD_e2 | apply TD_e3)); (first | ((with_reducible apply ES_storeOwn (enc := Pr.enc)); exact rfl; exact rfl; (first | ((repeat (first | with_reducible exact Upd.here _ _ _ | with_reducible apply Upd.there)); done) | (repeat (first | exact Upd.here _ _ _ | apply Upd.there))); exact fun _ => rfl; ((first | exact List.getElem?_set_self (by first | assumption | omega) | exact List.getElem?_eq_getElem (by first | assumption | omega | (simp only [List.length_set]; omega)))); decide; exact Pr.enc_mk _ _ _ _ _; exact rfl) | ((with_reducible apply ES_storeOwn0 (enc := Pr.enc)); exact rfl; exact rfl; (first | ((repeat (first | with_reducible exact Upd.here _ _ _ | with_reducible apply Upd.there)); done) | (repeat (first | exact Upd.here _ _ _ | apply Upd.there))); exact fun _ => rfl; ((first | exact List.getElem?_set_self (by first | assumption | omega) | exact List.getElem?_eq_getElem (by first | assumption | omega | (simp only [List.length_set]; omega)))); decide; exact Pr.enc_mk _ _ _ _ _; exact rfl) | exact ES.auto); (first | exact rfl | exact ⟨rfl, rfl, rfl⟩); (first | (rintro _ _ ⟨rfl, rfl⟩) | (rintro _ _ ⟨g, rfl, rfl⟩) | (rintro _ _ ⟨A', c', rfl, rfl⟩)); (try refine ⟨SUB, ?_⟩)) | (refine GO ?_) | (refine GOE ?_; (first | (rintro _ _ ⟨rfl, rfl⟩) | (rintro _ _ ⟨g, rfl, rfl⟩) | (rintro _ _ ⟨A', c', rfl, rfl⟩))) | ((refine GO2 ?_ ?_) <;> intro h <;> (try (repeat (first | with_reducible (replace h := of_decide_eq_true h) | with_reducible (replace h := of_decide_eq_false h) | with_reducible (replace h := bnt h) | with_reducible (replace h := bnf h) | with_reducible (replace h := Int.not_lt.mp h) | with_reducible (replace h := Int.not_le.mp h) | with_reducible (replace h := band_dec h) | with_reducible (replace h := band_decF h) | with_reducible (replace h := bor_dec h) | with_reducible (replace h := bor_decF h)))) <;> (try (exfalso; first | contradiction | omega))) | ((with_reducible (first | apply TD_e2z | apply TD_e3z | apply TL_e | apply TD_e2 | apply TD_e3)); ((with_reducible apply ES_callV); exact rfl; (intro w hw; exact Calls.same_below (between_any _ _ _ _)); exact rfl); (first | exact rfl | exact ⟨rfl, rfl, rfl⟩); (rintro _ _ ⟨rfl, rfl⟩); (try refine ⟨SUB, ?_⟩)) | fail)
          all_goals first
            | (have hb : outT n l[q] = true := outT_yes (by omega)
               (refine At_ret Try.results16 rfl (fun w' hw => ?_))
               exact ⟨by rw [gates_list hh hl3 hql hb]; rfl, hw.below0 rfl⟩)
            | (have hb : outT n l[q] = false := outT_no (by omega) (by omega)
               (refine At_rounds (q + 1) ?_ ?_ ?_ ?_; (exact ⟨by omega, upto_nx hnq (fun _ => hb)⟩); (omega); ((repeat (first | exact SubE.nil _ | refine SubE.cons rfl ?_))); (exact SUBS)))
        · obtain rfl : q = l.length := by omega
          repeat' (first | ((first | with_reducible (first | apply TL_q | apply TD_q0 | apply TD_q1 | apply TD_q2 | apply TD_q3) | ((with_reducible (first | apply TD_q0y | apply TD_q1y)); exact rfl; exact rfl; (with_reducible exact rfl))); (first | ((with_reducible apply QS_load); exact rfl; exact Lds.ownSet (by first | ((repeat (first | with_reducible exact List.mem_cons_self | with_reducible apply List.mem_cons_of_mem)); done) | (repeat (first | exact List.Mem.head _ | apply List.Mem.tail))) (fun _ => rfl) (by omega) (by rw [Pr.enc_mk]; rfl)) | ((with_reducible apply QS_load); exact rfl; exact Lds.ownSet0 (by first | ((repeat (first | with_reducible exact List.mem_cons_self | with_reducible apply List.mem_cons_of_mem)); done) | (repeat (first | exact List.Mem.head _ | apply List.Mem.tail))) (fun _ => rfl) (by omega) (by rw [Pr.enc_mk]; rfl)) | exact QS.auto); exact rfl) | ((with_reducible (first | apply TD_e2z | apply TD_e3z | apply TL_e | apply TD_e2 | apply TD_e3)); (first | ((with_reducible apply ES_storeOwn (enc := Pr.enc)); exact rfl; exact rfl; (first | ((repeat (first | with_reducible exact Upd.here _ _ _ | with_reducible apply Upd.there)); done) | (repeat (first | exact Upd.here _ _ _ | apply Upd.there))); exact fun _ => rfl; ((first | exact List.getElem?_set_self (by first | assumption | omega) | exact List.getElem?_eq_getElem (by first | assumption | omega | (simp only [List.length_set]; omega)))); decide; exact Pr.enc_mk _ _ _ _ _; exact rfl) | ((with_reducible apply ES_storeOwn0 (enc := Pr.enc)); exact rfl; exact rfl; (first | ((repeat (first | with_reducible exact Upd.here _ _ _ | with_reducible apply Upd.there)); done) | (repeat (first | exact Upd.here _ _ _ | apply Upd.there))); exact fun _ => rfl; ((first | exact List.getElem?_set_self (by first | assumption | omega) | exact List.getElem?_eq_getElem (by first | assumption | omega | (simp only [List.length_set]; omega)))); decide; exact Pr.enc_mk _ _ _ _ _; exact rfl) | exact ES.auto); (first | exact rfl | exact ⟨rfl, rfl, rfl⟩); (first | (rintro _ _ ⟨rfl, rfl⟩) | (rintro _ _ ⟨g, rfl, rfl⟩) | (rintro _ _ ⟨A', c', rfl, rfl⟩)); (try refine ⟨SUB, ?_⟩)) | (refine GO ?_) | (refine GOE ?_; (first | (rintro _ _ ⟨rfl, rfl⟩) | (rintro _ _ ⟨g, rfl, rfl⟩) | (rintro _ _ ⟨A', c', rfl, rfl⟩))) | ((refine GO2 ?_ ?_) <;> intro h <;> (try (repeat (first | with_reducible (replace h := of_decide_eq_true h) | with_reducible (replace h := of_decide_eq_false h) | with_reducible (replace h := bnt h) | with_reducible (replace h := bnf h) | with_reducible (replace h := Int.not_lt.mp h) | with_reducible (replace h := Int.not_le.mp h) | with_reducible (replace h := band_dec h) | with_reducible (replace h := band_decF h) | with_reducible (replace h := bor_dec h) | with_reducible (replace h := bor_decF h)))) <;> (try (exfalso; first | contradiction | omega))) | fail)
          (refine At_ret Try.results16 rfl (fun w' hw => ?_))
          exact ⟨by rw [gates_ok hh hl3 (fun j hj => hnq j hj hj)]; rfl, hw.below0 rfl⟩
end
end Go.Proofs.Ytiimjppceobkfaa

namespace Go.Proofs.Ytiimjppceobkfaa
open Go.RowKit
set_option linter.unusedSectionVars false

/-- where the machine lies -/
structure MP where
  m : Nat
  g : Nat
  n : Nat
def machM (a : MP) (B : Option Addr) (c : Nat) : Ms → List Ent
  | ⟨ps, turn, inn, most, gates⟩ =>
  [entBlk a.m 134 #[.slice (some ⟨a.g, 0, none⟩) a.n a.n, .int .i64 turn, .int .i64 inn, .int .i64 most, .slice B gates.length c],
    entOwn Pr.enc 5 136 (some ⟨a.g, 0, none⟩) a.n ps, entOwn Gt.enc 2 32 B c gates]
structure MsOk (n : Nat) (st : Ms) : Prop where
  len : st.ps.length = n
  n4 : n ≤ 4
  left : ∀ w, w < n → 0 ≤ (st.at w).left ∧ (st.at w).left ≤ 5
  step : ∀ w, w < n → 0 ≤ (st.at w).step ∧ (st.at w).step ≤ 8
  number : ∀ w, w < n → 0 ≤ (st.at w).number ∧ (st.at w).number ≤ 600
  inn : 0 ≤ st.inn ∧ st.inn ≤ 600
  most : 0 ≤ st.most ∧ st.most ≤ 600
  gates : st.gates.length ≤ 600
def MPost (a : MP) (B : Option Addr) (c : Nat) (st st' : Ms) (w : World) (e : Ending) (w' : World) : Prop := ∃ x : Option Addr × Nat, e = .returned (.tuple #[]) ∧ Mem ⟨0, blks (machM a B c st), w⟩ w' (machM a x.1 x.2 st')
section
variable (a : MP) (B : Option Addr) (c : Nat) (st : Ms) (k : Nat) (n0 : Nat) (w : World) (hk : k < a.n) (hst : MsOk a.n st) (hm : Mem ⟨n0, blks (machM a B c st), w⟩ w (machM a B c st))
include hk hst hm
set_option maxRecDepth 100000 in
set_option maxHeartbeats 4000000 in
theorem enter_any : Calls Try.prog 134 #[.pointer (some ⟨a.m, 0, none⟩), .int .i64 (k : Nat)] w (MPost a B c st (enterM st k) w) := by
  obtain ⟨ps, turn, inn, most, gates⟩ := st
  have h1 := hst.inn
  have h2 := hst.most
  have h3 := hst.gates
  dsimp only at h1 h2 h3
  unfold MPost
  generalize blks (machM a B c ⟨ps, turn, inn, most, gates⟩) = F at hm ⊢
  refine calls_T F Try.func134 rfl Try.ntmps134 (by simp) (hm.anyN _) ?_
  rw [machM]
  repeat' (first | ((first | with_reducible (first | apply TL_q | apply TD_q0 | apply TD_q1 | apply TD_q2 | apply TD_q3) | ((with_reducible (first | apply TD_q0y | apply TD_q1y)); exact rfl; exact rfl; (with_reducible exact rfl))); (first | ((with_reducible apply QS_load); exact rfl; exact Lds.ownSet (by first | ((repeat (first | with_reducible exact List.mem_cons_self | with_reducible apply List.mem_cons_of_mem)); done) | (repeat (first | exact List.Mem.head _ | apply List.Mem.tail))) (fun _ => rfl) (by omega) (by rw [Pr.enc_mk]; rfl)) | ((with_reducible apply QS_load); exact rfl; exact Lds.ownSet0 (by first | ((repeat (first | with_reducible exact List.mem_cons_self | with_reducible apply List.mem_cons_of_mem)); done) | (repeat (first | exact List.Mem.head _ | apply List.Mem.tail))) (fun _ => rfl) (by omega) (by rw [Pr.enc_mk]; rfl)) | exact QS.auto); exact rfl) | ((with_reducible (first | apply TD_e2z | apply TD_e3z | apply TL_e | apply TD_e2 | apply TD_e3)); (first | ((with_reducible apply ES_storeOwn (enc := Pr.enc)); exact rfl; exact rfl; (first | ((repeat (first | with_reducible exact Upd.here _ _ _ | with_reducible apply Upd.there)); done) | (repeat (first | exact Upd.here _ _ _ | apply Upd.there))); exact fun _ => rfl; ((first | exact List.getElem?_set_self (by first | assumption | omega) | exact List.getElem?_eq_getElem (by first | assumption | omega | (simp only [List.length_set]; omega)))); decide; exact Pr.enc_mk _ _ _ _ _; exact rfl) | ((with_reducible apply ES_storeOwn0 (enc := Pr.enc)); exact rfl; exact rfl; (first | ((repeat (first | with_reducible exact Upd.here _ _ _ | with_reducible apply Upd.there)); done) | (repeat (first | exact Upd.here _ _ _ | apply Upd.there))); exact fun _ => rfl; ((first | exact List.getElem?_set_self (by first | assumption | omega) | exact List.getElem?_eq_getElem (by first | assumption | omega | (simp only [List.length_set]; omega)))); decide; exact Pr.enc_mk _ _ _ _ _; exact rfl) | exact ES.auto); (first | exact rfl | exact ⟨rfl, rfl, rfl⟩); (first | (rintro _ _ ⟨rfl, rfl⟩) | (rintro _ _ ⟨g, rfl, rfl⟩) | (rintro _ _ ⟨A', c', rfl, rfl⟩)); (try refine ⟨SUB, ?_⟩)) | (refine GG ?_) | (refine GE ?_; (first | (rintro _ _ ⟨rfl, rfl⟩) | (rintro _ _ ⟨g, rfl, rfl⟩) | (rintro _ _ ⟨A', c', rfl, rfl⟩)); (try refine ⟨SUB, ?_⟩)) | ((refine GO2 ?_ ?_) <;> intro h <;> (try (repeat (first | with_reducible (replace h := of_decide_eq_true h) | with_reducible (replace h := of_decide_eq_false h) | with_reducible (replace h := bnt h) | with_reducible (replace h := bnf h) | with_reducible (replace h := Int.not_lt.mp h) | with_reducible (replace h := Int.not_le.mp h) | with_reducible (replace h := band_dec h) | with_reducible (replace h := band_decF h) | with_reducible (replace h := bor_dec h) | with_reducible (replace h := bor_decF h)))) <;> (try (exfalso; first | contradiction | omega))) | (refine GOF ?_ ?_) | ((with_reducible apply T_draw (id := 2) 12 (OT.seq [(0, 0), (0, 1), (0, 2), (0, 3), (0, 5), (0, 6), (0, 7), (1, 4), (1, 8), (0, 9), (0, 10), (0, 11), (3, 12)] .nil)); kernel_rfl; exact rfl; kernel_rfl; (repeat (first | with_reducible exact Blind.body | with_reducible apply Blind.seq | with_reducible apply Blind.block))) | ((with_reducible (first | apply TD_e2z | apply TD_e3z | apply TL_e | apply TD_e2 | apply TD_e3)); ((with_reducible apply ES_append1 (enc := Gt.enc) (xx := (⟨(k : Int), true⟩ : Gt))); exact rfl; exact rfl; (repeat (first | with_reducible exact List.mem_cons_self | with_reducible apply List.mem_cons_of_mem)); exact rfl; exact fun _ => rfl; exact fun _ => rfl; (intro A' c'; first | ((repeat (first | with_reducible exact Upd.here _ _ _ | with_reducible apply Upd.there)); done) | (repeat (first | exact Upd.here _ _ _ | apply Upd.there))); (omega); decide; exact rfl); (first | exact rfl | exact ⟨rfl, rfl, rfl⟩); (rintro _ _ ⟨A', c', rfl, rfl⟩); (try refine ⟨SUB, ?_⟩)) | fail)
  (refine At_retN Try.results134 rfl (fun w' hw => ?_))
  exact ⟨(A', c'), rfl, (hw.sub (List.sublist_cons_self _ _)).anyN 0⟩
set_option maxRecDepth 100000 in
set_option maxHeartbeats 4000000 in
theorem exit_any : Calls Try.prog 135 #[.pointer (some ⟨a.m, 0, none⟩), .int .i64 (k : Nat)] w (MPost a B c st (exitM st k) w) := by
  obtain ⟨ps, turn, inn, most, gates⟩ := st
  have h1 := hst.inn
  have h2 := hst.most
  have h3 := hst.gates
  dsimp only at h1 h2 h3
  unfold MPost
  generalize blks (machM a B c ⟨ps, turn, inn, most, gates⟩) = F at hm ⊢
  refine calls_T F Try.func135 rfl Try.ntmps135 (by simp) (hm.anyN _) ?_
  rw [machM]
  repeat' (first | ((first | with_reducible (first | apply TL_q | apply TD_q0 | apply TD_q1 | apply TD_q2 | apply TD_q3) | ((with_reducible (first | apply TD_q0y | apply TD_q1y)); exact rfl; exact rfl; (with_reducible exact rfl))); (first | ((with_reducible apply QS_load); exact rfl; exact Lds.ownSet (by first | ((repeat (first | with_reducible exact List.mem_cons_self | with_reducible apply List.mem_cons_of_mem)); done) | (repeat (first | exact List.Mem.head _ | apply List.Mem.tail))) (fun _ => rfl) (by omega) (by rw [Pr.enc_mk]; rfl)) | ((with_reducible apply QS_load); exact rfl; exact Lds.ownSet0 (by first | ((repeat (first | with_reducible exact List.mem_cons_self | with_reducible apply List.mem_cons_of_mem)); done) | (repeat (first | exact List.Mem.head _ | apply List.Mem.tail))) (fun _ => rfl) (by omega) (by rw [Pr.enc_mk]; rfl)) | exact QS.auto); exact rfl) | ((with_reducible (first | apply TD_e2z | apply TD_e3z | apply TL_e | apply TD_e2 | apply TD_e3)); (first | ((with_reducible apply ES_storeOwn (enc := Pr.enc)); exact rfl; exact rfl; (first | ((repeat (first | with_reducible exact Upd.here _ _ _ | with_reducible apply Upd.there)); done) | (repeat (first | exact Upd.here _ _ _ | apply Upd.there))); exact fun _ => rfl; ((first | exact List.getElem?_set_self (by first | assumption | omega) | exact List.getElem?_eq_getElem (by first | assumption | omega | (simp only [List.length_set]; omega)))); decide; exact Pr.enc_mk _ _ _ _ _; exact rfl) | ((with_reducible apply ES_storeOwn0 (enc := Pr.enc)); exact rfl; exact rfl; (first | ((repeat (first | with_reducible exact Upd.here _ _ _ | with_reducible apply Upd.there)); done) | (repeat (first | exact Upd.here _ _ _ | apply Upd.there))); exact fun _ => rfl; ((first | exact List.getElem?_set_self (by first | assumption | omega) | exact List.getElem?_eq_getElem (by first | assumption | omega | (simp only [List.length_set]; omega)))); decide; exact Pr.enc_mk _ _ _ _ _; exact rfl) | exact ES.auto); (first | exact rfl | exact ⟨rfl, rfl, rfl⟩); (first | (rintro _ _ ⟨rfl, rfl⟩) | (rintro _ _ ⟨g, rfl, rfl⟩) | (rintro _ _ ⟨A', c', rfl, rfl⟩)); (try refine ⟨SUB, ?_⟩)) | (refine GG ?_) | (refine GE ?_; (first | (rintro _ _ ⟨rfl, rfl⟩) | (rintro _ _ ⟨g, rfl, rfl⟩) | (rintro _ _ ⟨A', c', rfl, rfl⟩)); (try refine ⟨SUB, ?_⟩)) | ((refine GO2 ?_ ?_) <;> intro h <;> (try (repeat (first | with_reducible (replace h := of_decide_eq_true h) | with_reducible (replace h := of_decide_eq_false h) | with_reducible (replace h := bnt h) | with_reducible (replace h := bnf h) | with_reducible (replace h := Int.not_lt.mp h) | with_reducible (replace h := Int.not_le.mp h) | with_reducible (replace h := band_dec h) | with_reducible (replace h := band_decF h) | with_reducible (replace h := bor_dec h) | with_reducible (replace h := bor_decF h)))) <;> (try (exfalso; first | contradiction | omega))) | (refine GOF ?_ ?_) | ((with_reducible (first | apply TD_e2z | apply TD_e3z | apply TL_e | apply TD_e2 | apply TD_e3)); ((with_reducible apply ES_append1 (enc := Gt.enc) (xx := (⟨(k : Int), false⟩ : Gt))); exact rfl; exact rfl; (repeat (first | with_reducible exact List.mem_cons_self | with_reducible apply List.mem_cons_of_mem)); exact rfl; exact fun _ => rfl; exact fun _ => rfl; (intro A' c'; first | ((repeat (first | with_reducible exact Upd.here _ _ _ | with_reducible apply Upd.there)); done) | (repeat (first | exact Upd.here _ _ _ | apply Upd.there))); (omega); decide; exact rfl); (first | exact rfl | exact ⟨rfl, rfl, rfl⟩); (rintro _ _ ⟨A', c', rfl, rfl⟩); (try refine ⟨SUB, ?_⟩)) | fail)
  (refine At_retN Try.results135 rfl (fun w' hw => ?_))
  exact ⟨(A', c'), rfl, (hw.sub (List.sublist_cons_self _ _)).anyN 0⟩
end
section
variable (a : MP) (B : Option Addr) (c : Nat) (st : Ms) (k : Nat) (n0 : Nat) (w : World) (hk : k < a.n) (hlen : st.ps.length = a.n) (hleft : 0 ≤ (st.at k).left ∧ (st.at k).left ≤ 5) (hm : Mem ⟨n0, blks (machM a B c st), w⟩ w (machM a B c st))
include hk hlen hleft hm
set_option maxRecDepth 100000 in
set_option maxHeartbeats 4000000 in
theorem end_any : Calls Try.prog 136 #[.pointer (some ⟨a.m, 0, none⟩), .pointer (some ⟨a.g, k * 5, none⟩)] w (MPost a B c st (putP st k ⟨0, (st.at k).left - 1, (st.at k).flag, (st.at k).number, (st.at k).k⟩) w) := by
  obtain ⟨ps, turn, inn, most, gates⟩ := st
  have h1 : ps.length = a.n := hlen
  have h2 := hleft
  have e0 : (⟨ps, turn, inn, most, gates⟩ : Ms).at k = ps[k] := by simp [Ms.at, h1, hk]
  rw [e0] at h2 ⊢
  unfold MPost
  generalize blks (machM a B c ⟨ps, turn, inn, most, gates⟩) = F at hm ⊢
  refine calls_T F Try.func136 rfl Try.ntmps136 (by simp) (hm.anyN _) ?_
  rw [machM]
  repeat' (first | ((first | with_reducible (first | apply TL_q | apply TD_q0 | apply TD_q1 | apply TD_q2 | apply TD_q3) | ((with_reducible (first | apply TD_q0y | apply TD_q1y)); exact rfl; exact rfl; (with_reducible exact rfl))); (first | ((with_reducible apply QS_load); exact rfl; exact Lds.ownSet (by first | ((repeat (first | with_reducible exact List.mem_cons_self | with_reducible apply List.mem_cons_of_mem)); done) | (repeat (first | exact List.Mem.head _ | apply List.Mem.tail))) (fun _ => rfl) (by omega) (by rw [Pr.enc_mk]; rfl)) | ((with_reducible apply QS_load); exact rfl; exact Lds.ownSet0 (by first | ((repeat (first | with_reducible exact List.mem_cons_self | with_reducible apply List.mem_cons_of_mem)); done) | (repeat (first | exact List.Mem.head _ | apply List.Mem.tail))) (fun _ => rfl) (by omega) (by rw [Pr.enc_mk]; rfl)) | exact QS.auto); exact rfl) | ((with_reducible (first | apply TD_e2z | apply TD_e3z | apply TL_e | apply TD_e2 | apply TD_e3)); (first | ((with_reducible apply ES_storeOwn (enc := Pr.enc)); exact rfl; exact rfl; (first | ((repeat (first | with_reducible exact Upd.here _ _ _ | with_reducible apply Upd.there)); done) | (repeat (first | exact Upd.here _ _ _ | apply Upd.there))); exact fun _ => rfl; ((first | exact List.getElem?_set_self (by first | assumption | omega) | exact List.getElem?_eq_getElem (by first | assumption | omega | (simp only [List.length_set]; omega)))); decide; exact Pr.enc_mk _ _ _ _ _; exact rfl) | ((with_reducible apply ES_storeOwn0 (enc := Pr.enc)); exact rfl; exact rfl; (first | ((repeat (first | with_reducible exact Upd.here _ _ _ | with_reducible apply Upd.there)); done) | (repeat (first | exact Upd.here _ _ _ | apply Upd.there))); exact fun _ => rfl; ((first | exact List.getElem?_set_self (by first | assumption | omega) | exact List.getElem?_eq_getElem (by first | assumption | omega | (simp only [List.length_set]; omega)))); decide; exact Pr.enc_mk _ _ _ _ _; exact rfl) | exact ES.auto); (first | exact rfl | exact ⟨rfl, rfl, rfl⟩); (first | (rintro _ _ ⟨rfl, rfl⟩) | (rintro _ _ ⟨g, rfl, rfl⟩) | (rintro _ _ ⟨A', c', rfl, rfl⟩)); (try refine ⟨SUB, ?_⟩)) | (refine GG ?_) | (refine GE ?_; (first | (rintro _ _ ⟨rfl, rfl⟩) | (rintro _ _ ⟨g, rfl, rfl⟩) | (rintro _ _ ⟨A', c', rfl, rfl⟩)); (try refine ⟨SUB, ?_⟩)) | ((refine GO2 ?_ ?_) <;> intro h <;> (try (repeat (first | with_reducible (replace h := of_decide_eq_true h) | with_reducible (replace h := of_decide_eq_false h) | with_reducible (replace h := bnt h) | with_reducible (replace h := bnf h) | with_reducible (replace h := Int.not_lt.mp h) | with_reducible (replace h := Int.not_le.mp h) | with_reducible (replace h := band_dec h) | with_reducible (replace h := band_decF h) | with_reducible (replace h := bor_dec h) | with_reducible (replace h := bor_decF h)))) <;> (try (exfalso; first | contradiction | omega))) | (refine GOF ?_ ?_) | fail)
  (refine At_retN Try.results136 rfl (fun w' hw => ?_))
  refine ⟨(B, c), rfl, ?_⟩
  have h9 := hw.anyN 0
  rw [List.set_set] at h9
  exact h9
end
theorem end_set {a : MP} {B : Option Addr} {c : Nat} {ps : List Pr} {turn inn most : Int} {gates : List Gt} {k : Nat} {p : Pr} {n0 : Nat} {w : World} (hk : k < a.n) (hlen : ps.length = a.n) (hleft : 0 ≤ p.left ∧ p.left ≤ 5) (hm : Mem ⟨n0, blks (machM a B c ⟨ps.set k p, turn, inn, most, gates⟩), w⟩ w (machM a B c ⟨ps.set k p, turn, inn, most, gates⟩)) :
    Calls Try.prog 136 #[.pointer (some ⟨a.m, 0, none⟩), .pointer (some ⟨a.g, k * 5, none⟩)] w (MPost a B c ⟨ps.set k p, turn, inn, most, gates⟩ ⟨ps.set k ⟨0, p.left - 1, p.flag, p.number, p.k⟩, turn, inn, most, gates⟩ w) := by
  have e : (⟨ps.set k p, turn, inn, most, gates⟩ : Ms).at k = p := by simp [Ms.at, List.getD_eq_getElem?_getD, hlen, hk]
  have h := end_any a B c ⟨ps.set k p, turn, inn, most, gates⟩ k n0 w hk (by simpa using hlen) (by rw [e]; exact hleft) hm
  rw [e] at h
  unfold putP at h
  dsimp only at h
  rw [List.set_set] at h
  exact h
theorem other_any (k : Int) (q : Nat) (w : World) (h1 : -1000 ≤ k) (h2 : k ≤ 1000) : Calls Try.prog 137 #[.int .i64 k, .int .i64 (q : Nat)] w fun e w' => e = .returned (.int .i64 (otherK k q)) ∧ Below w.heap.size w w' := by
  refine calls_T (S := []) [] Try.func137 rfl Try.ntmps137 (by simp) (Mem.nil _) ?_
  repeat' (first | ((first | with_reducible (first | apply TL_q | apply TD_q0 | apply TD_q1 | apply TD_q2 | apply TD_q3) | ((with_reducible (first | apply TD_q0y | apply TD_q1y)); exact rfl; exact rfl; (with_reducible exact rfl))); (first | ((with_reducible apply QS_load); exact rfl; exact Lds.ownSet (by first | ((repeat (first | with_reducible exact List.mem_cons_self | with_reducible apply List.mem_cons_of_mem)); done) | (repeat (first | exact List.Mem.head _ | apply List.Mem.tail))) (fun _ => rfl) (by omega) (by rw [Pr.enc_mk]; rfl)) | ((with_reducible apply QS_load); exact rfl; exact Lds.ownSet0 (by first | ((repeat (first | with_reducible exact List.mem_cons_self | with_reducible apply List.mem_cons_of_mem)); done) | (repeat (first | exact List.Mem.head _ | apply List.Mem.tail))) (fun _ => rfl) (by omega) (by rw [Pr.enc_mk]; rfl)) | exact QS.auto); exact rfl) | ((with_reducible (first | apply TD_e2z | apply TD_e3z | apply TL_e | apply TD_e2 | apply TD_e3)); (first | ((with_reducible apply ES_storeOwn (enc := Pr.enc)); exact rfl; exact rfl; (first | ((repeat (first | with_reducible exact Upd.here _ _ _ | with_reducible apply Upd.there)); done) | (repeat (first | exact Upd.here _ _ _ | apply Upd.there))); exact fun _ => rfl; ((first | exact List.getElem?_set_self (by first | assumption | omega) | exact List.getElem?_eq_getElem (by first | assumption | omega | (simp only [List.length_set]; omega)))); decide; exact Pr.enc_mk _ _ _ _ _; exact rfl) | ((with_reducible apply ES_storeOwn0 (enc := Pr.enc)); exact rfl; exact rfl; (first | ((repeat (first | with_reducible exact Upd.here _ _ _ | with_reducible apply Upd.there)); done) | (repeat (first | exact Upd.here _ _ _ | apply Upd.there))); exact fun _ => rfl; ((first | exact List.getElem?_set_self (by first | assumption | omega) | exact List.getElem?_eq_getElem (by first | assumption | omega | (simp only [List.length_set]; omega)))); decide; exact Pr.enc_mk _ _ _ _ _; exact rfl) | exact ES.auto); (first | exact rfl | exact ⟨rfl, rfl, rfl⟩); (first | (rintro _ _ ⟨rfl, rfl⟩) | (rintro _ _ ⟨g, rfl, rfl⟩) | (rintro _ _ ⟨A', c', rfl, rfl⟩)); (try refine ⟨SUB, ?_⟩)) | (refine GO ?_) | (refine GOE ?_; (first | (rintro _ _ ⟨rfl, rfl⟩) | (rintro _ _ ⟨g, rfl, rfl⟩) | (rintro _ _ ⟨A', c', rfl, rfl⟩))) | ((refine GO2 ?_ ?_) <;> intro h <;> (try (repeat (first | with_reducible (replace h := of_decide_eq_true h) | with_reducible (replace h := of_decide_eq_false h) | with_reducible (replace h := bnt h) | with_reducible (replace h := bnf h) | with_reducible (replace h := Int.not_lt.mp h) | with_reducible (replace h := Int.not_le.mp h) | with_reducible (replace h := band_dec h) | with_reducible (replace h := band_decF h) | with_reducible (replace h := bor_dec h) | with_reducible (replace h := bor_decF h)))) <;> (try (exfalso; first | contradiction | omega))) | fail)
  · (refine At_ret Try.results137 rfl (fun w' hw => ?_))
    exact ⟨by rw [otherK, if_pos (by assumption)]; rfl, hw.below0 rfl⟩
  · (refine At_ret Try.results137 rfl (fun w' hw => ?_))
    exact ⟨by rw [otherK, if_neg (by assumption)]; rfl, hw.below0 rfl⟩
end Go.Proofs.Ytiimjppceobkfaa

namespace Go.Proofs.Ytiimjppceobkfaa
open Go.RowKit

/-- S holds what S1 says, in any order; R is left -/
inductive Pull : List Ent → List Ent → List Ent → Prop
  | nil (S : List Ent) : Pull S [] S
  | cons {S R T R' : List Ent} {e : Ent} (h : Pick S e R) (t : Pull R T R') : Pull S (e :: T) R'
theorem Pull.mem : ∀ {S T R : List Ent}, Pull S T R → ∀ f, f ∈ T ++ R ↔ f ∈ S
  | _, _, _, .nil _, f => by simp
  | _, _, _, .cons h t, f => by
    obtain ⟨A, B, rfl, rfl⟩ := h.form
    have := t.mem f
    rw [List.cons_append, List.mem_cons, this]
    simp only [List.mem_append, List.mem_cons]
    constructor
    · rintro (h | h | h)
      · exact .inr (.inl h)
      · exact .inl h
      · exact .inr (.inr h)
    · rintro (h | h | h)
      · exact .inr (.inl h)
      · exact .inl h
      · exact .inr (.inr h)
section
variable {C : Ctx} {w : World} {S T R : List Ent}
theorem Mem.pull (hw : Mem C w S) (h : Pull S T R) : Mem C w (T ++ R) := by
  induction h with
  | nil S => exact hw
  | @cons S R T R' e h t ih =>
    have h1 := hw.pick h
    have hap := List.pairwise_cons.1 h1.apart
    have h2 := ih (h1.sub (List.sublist_cons_self _ _))
    refine ⟨h2.keeps, fun f hf => ?_, ?_⟩
    · rcases List.mem_cons.1 hf with rfl | hf
      · exact h1.holds f (by simp)
      · exact h2.holds f hf
    · exact List.pairwise_cons.2 ⟨fun f hf => hap.1 f ((t.mem f).1 hf), h2.apart⟩
end
/-- one list behind the other, laid flat -/
inductive AppL : List Ent → List Ent → List Ent → Prop
  | nil (R : List Ent) : AppL [] R R
  | cons {T R S2 : List Ent} (e : Ent) (h : AppL T R S2) : AppL (e :: T) R (e :: S2)
theorem AppL.eq {T R S2 : List Ent} (h : AppL T R S2) : T ++ R = S2 := by
  induction h with
  | nil R => rfl
  | cons e _ ih => rw [List.cons_append, ih]
section
variable {P : Program} {C : Ctx} {Q : Exit → Act → World → Prop} {E : Slots} {S S1 S1' R S2 : List Ent}
variable {d ty : Nat} {ps : String} {af : Array Edge} {g0 : Option (Nat × Bool)} {f : Nat}
/-- a call that turns what it is handed -/
theorem ES_callMp [hf : IsFn P f] {xs : List Operand} {vs : List Value} {ats : Array TypeId} {v : Value} (hx : evs E xs = some vs) (hS : Pull S S1 R) (hA : AppL S1' R S2)
    (hc : ∀ w, Mem C w (S1 ++ R) → Calls P f vs.toArray w fun e w' => e = .returned v ∧ Mem ⟨0, blks S1, w⟩ w' S1') (hd : Nat.ble (d + 1) C.n = true) :
    ES P C E S ⟨some d, .call ⟨.value (.func f), xs.toArray, ats⟩, ty, ps, af, g0⟩ (fun E' S' => E' = (d, v) :: E ∧ S' = S2) :=
  (ES_call (fun u T => u = v ∧ T = S1' ++ R) hx (fun w hw => (hc w (hw.pull hS)).mono fun e w' ⟨he, hb⟩ => ⟨v, _, he, (hw.pull hS).frame hb, rfl, rfl⟩) hd).weak (by rintro _ _ ⟨_, ⟨rfl, rfl⟩, rfl⟩; exact ⟨rfl, hA.eq⟩)
/-- a call of a function value that turns what it is handed -/
theorem ES_callFMp [hf : IsFn P f] {x : Operand} {xs : List Operand} {vs us cs : List Value} {ats : Array TypeId} {v : Value} (hv : evo E x = some (.func (.func f) us.toArray cs.toArray)) (hx : evs E xs = some vs) (hS : Pull S S1 R) (hA : AppL S1' R S2)
    (hc : ∀ w, Mem C w (S1 ++ R) → Calls P f (us ++ vs ++ cs).toArray w fun e w' => e = .returned v ∧ Mem ⟨0, blks S1, w⟩ w' S1') (hd : Nat.ble (d + 1) C.n = true) :
    ES P C E S ⟨some d, .call ⟨.value x, xs.toArray, ats⟩, ty, ps, af, g0⟩ (fun E' S' => E' = (d, v) :: E ∧ S' = S2) :=
  (ES_enter (fun u T => u = v ∧ T = S1' ++ R) (fun a w ha => run_callV hv hx ha) (fun w hw => (hc w (hw.pull hS)).mono fun e w' ⟨he, hb⟩ => ⟨v, _, he, (hw.pull hS).frame hb, rfl, rfl⟩) hd).weak (by rintro _ _ ⟨_, ⟨rfl, rfl⟩, rfl⟩; exact ⟨rfl, hA.eq⟩)
theorem Mem.blkAt {w : World} {g t : Nat} {cs : Array Value} (hw : Mem C w S) (hm : entBlk g t cs ∈ S) : g < w.heap.size ∧ ∀ o, w.cell? ⟨g, o, Option.none⟩ = cs[o]? :=
  ⟨((hw.holds _ hm).1 : Blk w g t cs).lt, fun o => ((hw.holds _ hm).1 : Blk w g t cs).cell o⟩
/-- a call that hands back what it made -/
theorem ES_callNew [hf : IsFn P f] {X : Type} {xs : List Operand} {vs : List Value} {ats : Array TypeId} (v : X → Value) (S1 : X → List Ent) {S2 : X → List Ent} (hx : evs E xs = some vs) (hA : ∀ x, AppL (S1 x) S (S2 x))
    (hc : ∀ w, Mem C w S → Calls P f vs.toArray w fun e w' => ∃ x, e = .returned (v x) ∧ Mem ⟨0, [], w⟩ w' (S1 x)) (hd : Nat.ble (d + 1) C.n = true) :
    ES P C E S ⟨some d, .call ⟨.value (.func f), xs.toArray, ats⟩, ty, ps, af, g0⟩ (fun E' S' => ∃ x, E' = (d, v x) :: E ∧ S' = S2 x) :=
  (ES_call (fun u T => ∃ x, u = v x ∧ T = S2 x) hx (fun w hw => (hc w hw).mono fun e w' ⟨x, he, hb⟩ => ⟨v x, _, he, (show Mem C w ([] ++ S) from hw).frame (S1 := []) (n := 0) hb, x, rfl, (hA x).eq⟩) hd).weak
    (by rintro _ _ ⟨_, ⟨x, rfl, rfl⟩, rfl⟩; exact ⟨x, rfl, rfl⟩)
/-- a cut behind an 'if', named by its first region -/
theorem T_cutIf {X : Type} (id : Nat) {ops : Array Oper} {dr : Bool} {x y : Code} (I : X → Slots) (J : X → List Ent) (pre : X → Prop) (hx : T P C (.seq (.region id ops dr) x) (Exit.then (Cut C I J pre) Q) E S) (hy : ∀ z, pre z → T P C y Q (I z) (J z)) : T P C (.seq (.seq (.region id ops dr) x) y) Q E S :=
  T_cut I J pre hx hy
end
end Go.Proofs.Ytiimjppceobkfaa
