/- Lemmas for the walks (Zn3, Zn4). No condition. -/
import Derived.Test.YtaonijdhmgcbjaaG07
import Derived.Test.YtaonijdhmgcbjaaG06
import Derived.Test.YtaonijdhmgcbjaaG08
set_option linter.unusedSimpArgs false
set_option linter.unusedVariables false
set_option linter.unusedSectionVars false
set_option linter.unnecessarySimpa false
namespace Go.Proofs.Ytaonijdhmgcbjaa
open Go.RowKit
set_option linter.unusedSectionVars false

section
variable (A : Option Addr) (c : Nat) (cs : List Cl) (w : World) (hl : cs.length ≤ 200) (hA : RdCl w A cs)
include hl hA
set_option maxRecDepth 100000 in
theorem writeOf_any (v : Int) : Calls Try.prog 38 #[.slice A cs.length c, .int .i64 v] w fun e w' => e = .returned (.tuple #[.int .i64 (if wrBy cs v < 0 then 0 else wrBy cs v), .bool (decide (0 ≤ wrBy cs v))]) ∧ Below w.heap.size w w' := by
  refine calls_T (S := []) [] Try.func38 rfl Try.ntmps38 (by simp) (Mem.nil _) ?_
  repeat' (first | ((first | with_reducible (first | apply TL_q | apply TD_q0 | apply TD_q1 | apply TD_q2 | apply TD_q3) | ((with_reducible (first | apply TD_q0y | apply TD_q1y)); exact rfl; exact rfl; (with_reducible exact rfl))); (first | ((with_reducible apply QS_sliceHigh); exact rfl; exact rfl; omega) | exact QS.auto); exact rfl) | (refine GO ?_) | (refine GOE ?_; (first | (rintro _ _ ⟨rfl, rfl⟩) | (rintro _ _ ⟨g, rfl, rfl⟩) | (rintro _ _ ⟨A', c', rfl, rfl⟩))) | ((refine GO2 ?_ ?_) <;> intro h <;> (try (repeat (first | with_reducible (replace h := of_decide_eq_true h) | with_reducible (replace h := of_decide_eq_false h) | with_reducible (replace h := bnt h) | with_reducible (replace h := bnf h) | with_reducible (replace h := Int.not_lt.mp h) | with_reducible (replace h := Int.not_le.mp h) | with_reducible (replace h := band_dec h) | with_reducible (replace h := band_decF h) | with_reducible (replace h := bor_dec h) | with_reducible (replace h := bor_decF h)))) <;> (try (exfalso; first | contradiction | omega))) | fail)
  refine T_loop (X := Nat) (fun k => [(10, .int .i64 (k : Nat)), (9, .int .i64 cs.length), (8, .slice A cs.length c), (1, .int .i64 v)]) (fun _ => []) (fun k => k ≤ cs.length ∧ ∀ i, i < k → isWr cs v i = false) (fun k => cs.length - k) 0 ⟨by omega, fun i hi => by omega⟩ (by (repeat (first | exact SubE.nil _ | refine SubE.cons rfl ?_))) (by exact SUBS) ?_
  rintro k ⟨hk, hno⟩
  by_cases hkl : k < cs.length
  · obtain ⟨b, o, rfl, _⟩ := RdE.open hA (by omega)
    have hck := clK_eq hkl
    have hw1 : isWr cs v k = (decide (cs[k].kind = 1) && decide (cs[k].arg = v)) := by unfold isWr; rw [hck]
    by_cases h1 : cs[k].kind = 1 ∧ cs[k].arg = v
    · have hat : wrBy cs v = (k : Int) := ixN_at hkl hno (by rw [hw1, decide_eq_true h1.1, decide_eq_true h1.2]; rfl)
      obtain ⟨h1a, h1b⟩ := h1
      rw [hat, if_neg (by omega), decide_eq_true (by omega)]
      repeat' (first | ((first | with_reducible (first | apply TL_q | apply TD_q0 | apply TD_q1 | apply TD_q2 | apply TD_q3) | ((with_reducible (first | apply TD_q0y | apply TD_q1y)); exact rfl; exact rfl; (with_reducible exact rfl))); (first | ((with_reducible apply QS_sliceHigh); exact rfl; exact rfl; omega) | exact QS.auto); exact rfl) | (refine GO ?_) | (refine GOE ?_; (first | (rintro _ _ ⟨rfl, rfl⟩) | (rintro _ _ ⟨g, rfl, rfl⟩) | (rintro _ _ ⟨A', c', rfl, rfl⟩))) | ((refine GO2 ?_ ?_) <;> intro h <;> (try (repeat (first | with_reducible (replace h := of_decide_eq_true h) | with_reducible (replace h := of_decide_eq_false h) | with_reducible (replace h := bnt h) | with_reducible (replace h := bnf h) | with_reducible (replace h := Int.not_lt.mp h) | with_reducible (replace h := Int.not_le.mp h) | with_reducible (replace h := band_dec h) | with_reducible (replace h := band_decF h) | with_reducible (replace h := bor_dec h) | with_reducible (replace h := bor_decF h)))) <;> (try (exfalso; first | contradiction | omega))) | fail)
      all_goals
        (refine At_ret Try.results38 rfl (fun w' hw => ?_))
        exact ⟨rfl, hw.below0 rfl⟩
    · have hf : isWr cs v k = false := by
        rw [hw1, Bool.eq_false_iff]
        intro e
        simp only [Bool.and_eq_true, decide_eq_true_eq] at e
        exact h1 e
      by_cases h1a : cs[k].kind = 1
      · have h1b : ¬ cs[k].arg = v := fun e => h1 ⟨h1a, e⟩
        repeat' (first | ((first | with_reducible (first | apply TL_q | apply TD_q0 | apply TD_q1 | apply TD_q2 | apply TD_q3) | ((with_reducible (first | apply TD_q0y | apply TD_q1y)); exact rfl; exact rfl; (with_reducible exact rfl))); (first | ((with_reducible apply QS_sliceHigh); exact rfl; exact rfl; omega) | exact QS.auto); exact rfl) | (refine GO ?_) | (refine GOE ?_; (first | (rintro _ _ ⟨rfl, rfl⟩) | (rintro _ _ ⟨g, rfl, rfl⟩) | (rintro _ _ ⟨A', c', rfl, rfl⟩))) | ((refine GO2 ?_ ?_) <;> intro h <;> (try (repeat (first | with_reducible (replace h := of_decide_eq_true h) | with_reducible (replace h := of_decide_eq_false h) | with_reducible (replace h := bnt h) | with_reducible (replace h := bnf h) | with_reducible (replace h := Int.not_lt.mp h) | with_reducible (replace h := Int.not_le.mp h) | with_reducible (replace h := band_dec h) | with_reducible (replace h := band_decF h) | with_reducible (replace h := bor_dec h) | with_reducible (replace h := bor_decF h)))) <;> (try (exfalso; first | contradiction | omega))) | fail)
        all_goals exact At_rounds (k + 1) ⟨hkl, fun i hi => (Nat.lt_succ_iff_lt_or_eq.1 hi).elim (fun e => hno i e) (fun e => by subst e; exact hf)⟩ (by omega) (by (repeat (first | exact SubE.nil _ | refine SubE.cons rfl ?_))) (by exact SUBS)
      · repeat' (first | ((first | with_reducible (first | apply TL_q | apply TD_q0 | apply TD_q1 | apply TD_q2 | apply TD_q3) | ((with_reducible (first | apply TD_q0y | apply TD_q1y)); exact rfl; exact rfl; (with_reducible exact rfl))); (first | ((with_reducible apply QS_sliceHigh); exact rfl; exact rfl; omega) | exact QS.auto); exact rfl) | (refine GO ?_) | (refine GOE ?_; (first | (rintro _ _ ⟨rfl, rfl⟩) | (rintro _ _ ⟨g, rfl, rfl⟩) | (rintro _ _ ⟨A', c', rfl, rfl⟩))) | ((refine GO2 ?_ ?_) <;> intro h <;> (try (repeat (first | with_reducible (replace h := of_decide_eq_true h) | with_reducible (replace h := of_decide_eq_false h) | with_reducible (replace h := bnt h) | with_reducible (replace h := bnf h) | with_reducible (replace h := Int.not_lt.mp h) | with_reducible (replace h := Int.not_le.mp h) | with_reducible (replace h := band_dec h) | with_reducible (replace h := band_decF h) | with_reducible (replace h := bor_dec h) | with_reducible (replace h := bor_decF h)))) <;> (try (exfalso; first | contradiction | omega))) | fail)
        all_goals exact At_rounds (k + 1) ⟨hkl, fun i hi => (Nat.lt_succ_iff_lt_or_eq.1 hi).elim (fun e => hno i e) (fun e => by subst e; exact hf)⟩ (by omega) (by (repeat (first | exact SubE.nil _ | refine SubE.cons rfl ?_))) (by exact SUBS)
  · obtain rfl : k = cs.length := by omega
    have hat : wrBy cs v = -1 := ixN_none hno
    rw [hat, if_pos (by decide), decide_eq_false (by decide)]
    repeat' (first | ((first | with_reducible (first | apply TL_q | apply TD_q0 | apply TD_q1 | apply TD_q2 | apply TD_q3) | ((with_reducible (first | apply TD_q0y | apply TD_q1y)); exact rfl; exact rfl; (with_reducible exact rfl))); (first | ((with_reducible apply QS_sliceHigh); exact rfl; exact rfl; omega) | exact QS.auto); exact rfl) | (refine GO ?_) | (refine GOE ?_; (first | (rintro _ _ ⟨rfl, rfl⟩) | (rintro _ _ ⟨g, rfl, rfl⟩) | (rintro _ _ ⟨A', c', rfl, rfl⟩))) | ((refine GO2 ?_ ?_) <;> intro h <;> (try (repeat (first | with_reducible (replace h := of_decide_eq_true h) | with_reducible (replace h := of_decide_eq_false h) | with_reducible (replace h := bnt h) | with_reducible (replace h := bnf h) | with_reducible (replace h := Int.not_lt.mp h) | with_reducible (replace h := Int.not_le.mp h) | with_reducible (replace h := band_dec h) | with_reducible (replace h := band_decF h) | with_reducible (replace h := bor_dec h) | with_reducible (replace h := bor_decF h)))) <;> (try (exfalso; first | contradiction | omega))) | fail)
    (refine At_ret Try.results38 rfl (fun w' hw => ?_))
    exact ⟨rfl, hw.below0 rfl⟩
end
section
variable (B0 : Option Addr) (d0 : Nat) (l : List Ev) (w : World) (hl : l.length ≤ 9223372036854775807) (hA : RdEv w B0 l)
include hl hA
set_option maxRecDepth 100000 in
set_option maxHeartbeats 4000000 in
theorem onceWritten_any : Calls Try.prog 13 #[.slice B0 l.length d0] w fun e w' => ∃ A c, e = .returned (.tuple #[.slice A (wonceR l).1.length c, .int .i64 (wonceR l).2]) ∧ Own Cl.enc 7 107 w' w.heap.size (.slice A (wonceR l).1.length c) (wonceR l).1 ∧ Below w.heap.size w w' := by
  have hcf := fun A w h1 h2 => callsOf_any A B0 1 d0 [1] l w (by decide) hl h1 h2
  have her := wonceR_err (l := l)
  have hbad := fun h i h1 h2 => wonceR_bad (l := l) h (i := i) h1 h2
  have hgood := wonceR_ok (l := l)
  have hlen := callsR_len [1] l
  obtain ⟨cs, y, er, hcr⟩ : ∃ cs y z, callsR [1] l = (cs, y, z) := ⟨_, _, _, rfl⟩
  rw [hcr] at hcf her hbad hgood hlen
  dsimp only at hcf her hbad hgood hlen
  generalize wonceR l = R at *
  refine calls_T (S := []) [] Try.func13 rfl Try.ntmps13 (by simp) (Mem.nil _) ?_
  repeat' (first | ((with_reducible refine TL_mem (S' := [entOwn intEnc 1 3 (some ⟨g, 0, none⟩) 1 [1]]) (fun w hw => Mem.asOwn (enc := intEnc) (M := 1) [1] (Upd.here _ _ _) rfl (fun _ => rfl) (by decide) hw) ?_)) | ((first | with_reducible (first | apply TL_q | apply TD_q0 | apply TD_q1 | apply TD_q2 | apply TD_q3) | ((with_reducible (first | apply TD_q0y | apply TD_q1y)); exact rfl; exact rfl; (with_reducible exact rfl))); (first | ((with_reducible apply QS_sliceHigh); exact rfl; exact rfl; omega) | exact QS.auto); exact rfl) | (refine GO ?_) | (refine GOE ?_; (first | (rintro _ _ ⟨rfl, rfl⟩) | (rintro _ _ ⟨g, rfl, rfl⟩) | (rintro _ _ ⟨A', c', rfl, rfl⟩))) | ((refine GO2 ?_ ?_) <;> intro h <;> (try (repeat (first | with_reducible (replace h := of_decide_eq_true h) | with_reducible (replace h := of_decide_eq_false h) | with_reducible (replace h := bnt h) | with_reducible (replace h := bnf h) | with_reducible (replace h := Int.not_lt.mp h) | with_reducible (replace h := Int.not_le.mp h) | with_reducible (replace h := band_dec h) | with_reducible (replace h := band_decF h) | with_reducible (replace h := bor_dec h) | with_reducible (replace h := bor_decF h)))) <;> (try (exfalso; first | contradiction | omega))) | ((with_reducible (first | apply TD_e2z | apply TD_e3z | apply TL_e | apply TD_e2 | apply TD_e3)); ((with_reducible apply ES_callOwn (f := 19)); exact rfl; (intro w hw; exact hcf (some ⟨g, 0, none⟩) w (hw.ownRd (by first | ((repeat (first | with_reducible exact List.mem_cons_self | with_reducible apply List.mem_cons_of_mem)); done) | (repeat (first | exact List.Mem.head _ | apply List.Mem.tail))) (fun _ => rfl)) (hw.rd rfl hA)); exact rfl); (first | exact rfl | exact ⟨rfl, rfl, rfl⟩); (rintro _ _ ⟨A1, c1, rfl, rfl⟩); (try refine ⟨SUB, ?_⟩)) | fail)
  · obtain rfl := her (by assumption)
    (refine At_ret Try.results13 rfl (fun w' hw => ?_))
    exact ⟨none, 0, rfl, Own.nil _ _, hw.below0 rfl⟩
  · have h0 : er = 0 := by assumption
    have hbad := hbad h0
    have hgood := hgood h0
    refine T_fact (p := cs.length ≤ c1 ∧ (A1 = none → c1 = 0)) (fun w hw => hw.ownFacts (enc := Cl.enc) (M := 7) (et := 107) (by first | ((repeat (first | with_reducible exact List.mem_cons_self | with_reducible apply List.mem_cons_of_mem)); done) | (repeat (first | exact List.Mem.head _ | apply List.Mem.tail)))) fun hf0 => ?_
    have hca := hf0.1
    refine T_loop (X := Nat) (fun k => [(23, .int .i64 (k : Nat)), (22, .int .i64 cs.length), (21, .slice A1 cs.length c1), (4, .slice A1 cs.length c1)]) (fun _ => [entOwn Cl.enc 7 107 A1 c1 cs]) (fun k => k ≤ cs.length ∧ ∀ i, i < k → againB cs i = false) (fun k => cs.length - k) 0 ⟨by omega, fun i hi => by omega⟩ (by (repeat (first | exact SubE.nil _ | refine SubE.cons rfl ?_))) (fun w' hw => hw.sel (by (repeat (first | exact Sel.nil _ | (apply Sel.cons; (repeat (first | with_reducible exact Pick.here _ _ | with_reducible apply Pick.there))))))) ?_
    rintro k ⟨hk, hno⟩
    by_cases hkl : k < cs.length
    · have hck := clK_eq hkl
      have hcl : againB cs k = (decide (cs[k].kind = 1) && (List.range k).any fun j => decide ((clK cs j).kind = 1) && decide ((clK cs j).arg = cs[k].arg)) := by unfold againB; rw [hck]
      have hbk := hbad k hkl
      refine T_own (enc := Cl.enc) (ls := cs) (by first | ((repeat (first | with_reducible exact List.mem_cons_self | with_reducible apply List.mem_cons_of_mem)); done) | (repeat (first | exact List.Mem.head _ | apply List.Mem.tail))) (by omega) ?_
      rintro gC rfl
      have hyes : ∀ q, q < k → cs[k].kind = 1 → (clK cs q).kind = 1 → (clK cs q).arg = cs[k].arg → R = ([], 6) := fun q hq e1 e2 e3 => hbk (by
        rw [hcl, decide_eq_true e1, Bool.true_and, List.any_eq_true]
        exact ⟨q, List.mem_range.2 hq, by simp [e2, e3]⟩)
      have hnn : (∀ q, q < k → (decide (cs[k].kind = 1) && (decide ((clK cs q).kind = 1) && decide ((clK cs q).arg = cs[k].arg))) = false) → againB cs k = false := fun hq => by
        rw [hcl]
        by_cases e : cs[k].kind = 1
        · rw [decide_eq_true e, Bool.true_and, List.any_eq_false]
          intro q hq2
          have := hq q (List.mem_range.1 hq2)
          rw [decide_eq_true e, Bool.true_and] at this
          rw [this]; decide
        · rw [decide_eq_false e]; rfl
      clear hcl hbk hbad
      repeat' (first | ((first | with_reducible (first | apply TL_q | apply TD_q0 | apply TD_q1 | apply TD_q2 | apply TD_q3) | ((with_reducible (first | apply TD_q0y | apply TD_q1y)); exact rfl; exact rfl; (with_reducible exact rfl))); (first | ((with_reducible apply QS_sliceHigh); exact rfl; exact rfl; omega) | exact QS.auto); exact rfl) | (refine GO ?_) | (refine GOE ?_; (first | (rintro _ _ ⟨rfl, rfl⟩) | (rintro _ _ ⟨g, rfl, rfl⟩) | (rintro _ _ ⟨A', c', rfl, rfl⟩))) | ((refine GO2 ?_ ?_) <;> intro h <;> (try (repeat (first | with_reducible (replace h := of_decide_eq_true h) | with_reducible (replace h := of_decide_eq_false h) | with_reducible (replace h := bnt h) | with_reducible (replace h := bnf h) | with_reducible (replace h := Int.not_lt.mp h) | with_reducible (replace h := Int.not_le.mp h) | with_reducible (replace h := band_dec h) | with_reducible (replace h := band_decF h) | with_reducible (replace h := bor_dec h) | with_reducible (replace h := bor_decF h)))) <;> (try (exfalso; first | contradiction | omega))) | fail)
      all_goals first | (exfalso; omega) | skip
      refine T_loop (X := Nat) (fun j => [(32, .int .i64 (j : Nat)), (31, .int .i64 (k : Nat)), (30, .slice (some ⟨gC, 0, none⟩) k c1), (8, .pointer (some ⟨g, 0, none⟩)), (23, .int .i64 (k : Nat)), (22, .int .i64 cs.length), (21, .slice (some ⟨gC, 0, none⟩) cs.length c1), (4, .slice (some ⟨gC, 0, none⟩) cs.length c1)]) (fun _ => [entBlk g 107 (Cl.enc cs[k]).toArray, entOwn Cl.enc 7 107 (some ⟨gC, 0, none⟩) c1 cs])
        (fun j => j ≤ k ∧ ∀ q, q < j → (decide (cs[k].kind = 1) && (decide ((clK cs q).kind = 1) && decide ((clK cs q).arg = cs[k].arg))) = false) (fun j => k - j) 0 ⟨by omega, fun q hq => by omega⟩ (by (repeat (first | exact SubE.nil _ | refine SubE.cons rfl ?_))) (fun w' hw => hw.sel (by (repeat (first | exact Sel.nil _ | (apply Sel.cons; (repeat (first | with_reducible exact Pick.here _ _ | with_reducible apply Pick.there))))))) ?_
      rintro j ⟨hj, hjn⟩
      by_cases hjk : j < k
      · have hcj := clK_eq (cs := cs) (i := j) (by omega)
        have hyj := hyes j hjk
        have hnj : (decide (cs[k].kind = 1) && (decide ((clK cs j).kind = 1) && decide ((clK cs j).arg = cs[k].arg))) = false → ∀ q, q < j + 1 → (decide (cs[k].kind = 1) && (decide ((clK cs q).kind = 1) && decide ((clK cs q).arg = cs[k].arg))) = false := fun hb q hq => (Nat.lt_succ_iff_lt_or_eq.1 hq).elim (fun e => hjn q e) (fun e => by subst e; exact hb)
        rw [hcj] at hyj hnj
        repeat' (first | ((first | with_reducible (first | apply TL_q | apply TD_q0 | apply TD_q1 | apply TD_q2 | apply TD_q3) | ((with_reducible (first | apply TD_q0y | apply TD_q1y)); exact rfl; exact rfl; (with_reducible exact rfl))); (first | ((with_reducible apply QS_sliceHigh); exact rfl; exact rfl; omega) | exact QS.auto); exact rfl) | (refine GO ?_) | (refine GOE ?_; (first | (rintro _ _ ⟨rfl, rfl⟩) | (rintro _ _ ⟨g, rfl, rfl⟩) | (rintro _ _ ⟨A', c', rfl, rfl⟩))) | ((refine GO2 ?_ ?_) <;> intro h <;> (try (repeat (first | with_reducible (replace h := of_decide_eq_true h) | with_reducible (replace h := of_decide_eq_false h) | with_reducible (replace h := bnt h) | with_reducible (replace h := bnf h) | with_reducible (replace h := Int.not_lt.mp h) | with_reducible (replace h := Int.not_le.mp h) | with_reducible (replace h := band_dec h) | with_reducible (replace h := band_decF h) | with_reducible (replace h := bor_dec h) | with_reducible (replace h := bor_decF h)))) <;> (try (exfalso; first | contradiction | omega))) | fail)
        all_goals first
          | (exfalso; omega)
          | ((refine At_ret Try.results13 rfl (fun w' hw => ?_)); obtain rfl := hyj (by assumption) (by assumption) (by omega); exact ⟨none, 0, rfl, Own.nil _ _, hw.below0 rfl⟩)
          | exact At_rounds (j + 1) ⟨hjk, hnj (by simp [*]; try omega)⟩ (by omega) (by (repeat (first | exact SubE.nil _ | refine SubE.cons rfl ?_))) (fun w' hw => hw.sel (by (repeat (first | exact Sel.nil _ | (apply Sel.cons; (repeat (first | with_reducible exact Pick.here _ _ | with_reducible apply Pick.there)))))))
      · obtain rfl : j = k := by omega
        have hbn := hnn hjn
        repeat' (first | ((first | with_reducible (first | apply TL_q | apply TD_q0 | apply TD_q1 | apply TD_q2 | apply TD_q3) | ((with_reducible (first | apply TD_q0y | apply TD_q1y)); exact rfl; exact rfl; (with_reducible exact rfl))); (first | ((with_reducible apply QS_sliceHigh); exact rfl; exact rfl; omega) | exact QS.auto); exact rfl) | (refine GO ?_) | (refine GOE ?_; (first | (rintro _ _ ⟨rfl, rfl⟩) | (rintro _ _ ⟨g, rfl, rfl⟩) | (rintro _ _ ⟨A', c', rfl, rfl⟩))) | ((refine GO2 ?_ ?_) <;> intro h <;> (try (repeat (first | with_reducible (replace h := of_decide_eq_true h) | with_reducible (replace h := of_decide_eq_false h) | with_reducible (replace h := bnt h) | with_reducible (replace h := bnf h) | with_reducible (replace h := Int.not_lt.mp h) | with_reducible (replace h := Int.not_le.mp h) | with_reducible (replace h := band_dec h) | with_reducible (replace h := band_decF h) | with_reducible (replace h := bor_dec h) | with_reducible (replace h := bor_decF h)))) <;> (try (exfalso; first | contradiction | omega))) | fail)
        exact At_rounds (j + 1) ⟨hkl, fun i hi => (Nat.lt_succ_iff_lt_or_eq.1 hi).elim (fun e => hno i e) (fun e => by subst e; exact hbn)⟩ (by omega) (by (repeat (first | exact SubE.nil _ | refine SubE.cons rfl ?_))) (fun w' hw => hw.sel (by (repeat (first | exact Sel.nil _ | (apply Sel.cons; (repeat (first | with_reducible exact Pick.here _ _ | with_reducible apply Pick.there)))))))
    · obtain rfl : k = cs.length := by omega
      obtain rfl := hgood hno
      repeat' (first | ((first | with_reducible (first | apply TL_q | apply TD_q0 | apply TD_q1 | apply TD_q2 | apply TD_q3) | ((with_reducible (first | apply TD_q0y | apply TD_q1y)); exact rfl; exact rfl; (with_reducible exact rfl))); (first | ((with_reducible apply QS_sliceHigh); exact rfl; exact rfl; omega) | exact QS.auto); exact rfl) | (refine GO ?_) | (refine GOE ?_; (first | (rintro _ _ ⟨rfl, rfl⟩) | (rintro _ _ ⟨g, rfl, rfl⟩) | (rintro _ _ ⟨A', c', rfl, rfl⟩))) | ((refine GO2 ?_ ?_) <;> intro h <;> (try (repeat (first | with_reducible (replace h := of_decide_eq_true h) | with_reducible (replace h := of_decide_eq_false h) | with_reducible (replace h := bnt h) | with_reducible (replace h := bnf h) | with_reducible (replace h := Int.not_lt.mp h) | with_reducible (replace h := Int.not_le.mp h) | with_reducible (replace h := band_dec h) | with_reducible (replace h := band_decF h) | with_reducible (replace h := bor_dec h) | with_reducible (replace h := bor_decF h)))) <;> (try (exfalso; first | contradiction | omega))) | fail)
      (refine At_ret Try.results13 rfl (fun w' hw => ?_))
      exact ⟨A1, c1, rfl, hw.ownOut rfl (by first | ((repeat (first | with_reducible exact List.mem_cons_self | with_reducible apply List.mem_cons_of_mem)); done) | (repeat (first | exact List.Mem.head _ | apply List.Mem.tail))), hw.below0 rfl⟩
end
end Go.Proofs.Ytaonijdhmgcbjaa

namespace Go.Proofs.Ytaonijdhmgcbjaa
open Go.RowKit
set_option linter.unusedSectionVars false

/-- the document's zone, ahead of the reads -/
def begD (cs : List Cl) (v : Int) : Cz :=
  if v = 0 then ⟨-1, -1, false⟩ else if wrBy cs v < 0 then ⟨200, -1, false⟩ else begZ cs v
def endD (cs : List Cl) (v : Int) : Cz := zoneK cs v (begD cs v) cs.length
def zonD (cs : List Cl) (v : Int) : Zon := ⟨v, (endD cs v).zf, (endD cs v).zl, decide ((endD cs v).zf < (endD cs v).zl)⟩
def okD (cs : List Cl) (v : Int) : Bool := (decide (v = 0) || decide (0 ≤ wrBy cs v)) && (endD cs v).some_
theorem okD_zon {cs : List Cl} {v : Nat} (h : isV cs v = true) : begD cs (v : Int) = begZ cs (v : Int) := by
  unfold isV at h
  unfold begD begZ
  by_cases e : (v : Int) = 0
  · rw [if_pos e, if_pos e]
  · rw [if_neg e, if_neg e, if_neg]
    simp only [Bool.or_eq_true, decide_eq_true_eq] at h
    omega
theorem Zon.enc_mk (a b c : Int) (f : Bool) : Zon.enc ⟨a, b, c, f⟩ = [.int .i64 a, .int .i64 b, .int .i64 c, .bool f] := rfl
theorem readZ_yes {cs : List Cl} {v : Int} {z : Cz} {i : Nat} (h : isRd cs v i = true) : readZ cs v z i = ⟨if (clK cs i).to < z.zf then (clK cs i).to else z.zf, if z.zl < (clK cs i).from_ then (clK cs i).from_ else z.zl, true⟩ := by
  unfold readZ
  rw [if_pos h]
  congr 1
  · rw [Int.min_def]; split <;> split <;> omega
  · rw [Int.max_def]; split <;> split <;> omega
theorem readZ_no {cs : List Cl} {v : Int} {z : Cz} {i : Nat} (h : isRd cs v i = false) : readZ cs v z i = z := by
  unfold readZ; rw [if_neg (by simp [h])]
section
variable (A : Option Addr) (c : Nat) (cs : List Cl) (w : World) (hl : cs.length ≤ 200) (hA : RdCl w A cs)
include hl hA
set_option maxRecDepth 100000 in
set_option maxHeartbeats 8000000 in
theorem zoneOf_zero (v : Int) (hv : v = 0) (h0 : wrBy cs v = -1) : Calls Try.prog 14 #[.slice A cs.length c, .int .i64 v] w fun e w' => e = .returned (.tuple #[.agg (Zon.enc (zonD cs v)).toArray, .bool (okD cs v)]) ∧ Below w.heap.size w w' := by
  have hwo := fun w h => writeOf_any A c cs w hl h v
  rw [h0, if_pos (by decide), decide_eq_false (by decide)] at hwo
  obtain ⟨Z0, hZ0⟩ : ∃ Z, Z = begD cs v := ⟨_, rfl⟩
  have hZ1 : Z0 = ⟨-1, -1, false⟩ := by rw [hZ0]; unfold begD; rw [if_pos hv]
  refine calls_T (S := []) [] Try.func14 rfl Try.ntmps14 (by simp) (Mem.nil _) ?_
  repeat' (first | (refine GO ?_) | (refine GOE ?_; (first | (rintro _ _ ⟨rfl, rfl⟩) | (rintro _ _ ⟨g, rfl, rfl⟩) | (rintro _ _ ⟨A', c', rfl, rfl⟩))) | ((refine GO2 ?_ ?_) <;> intro h <;> (try (repeat (first | with_reducible (replace h := of_decide_eq_true h) | with_reducible (replace h := of_decide_eq_false h) | with_reducible (replace h := bnt h) | with_reducible (replace h := bnf h) | with_reducible (replace h := Int.not_lt.mp h) | with_reducible (replace h := Int.not_le.mp h) | with_reducible (replace h := band_dec h) | with_reducible (replace h := band_decF h) | with_reducible (replace h := bor_dec h) | with_reducible (replace h := bor_decF h)))) <;> (try (exfalso; first | contradiction | omega))) | ((with_reducible (first | apply TD_e2z | apply TD_e3z | apply TL_e | apply TD_e2 | apply TD_e3)); ((with_reducible apply ES_callV (f := 38)); exact rfl; (intro w hw; exact hwo w (hw.rd rfl hA)); exact rfl); (first | exact rfl | exact ⟨rfl, rfl, rfl⟩); (rintro _ _ ⟨rfl, rfl⟩); (try refine ⟨SUB, ?_⟩)) | fail)
  all_goals first | (exfalso; omega) | skip
  obtain ⟨gz, rfl⟩ : ∃ x, x = g := ⟨_, rfl⟩
  obtain ⟨g4, rfl⟩ : ∃ x, x = g := ⟨_, rfl⟩
  (refine T_loop (X := Nat × Nat) (fun x => [(45, .int .i64 (x.1 : Nat)), (44, .int .i64 cs.length), (7, .int .i64 (x.2 : Nat)), (9, .bool true), (10, .bool false), (43, .slice A cs.length c), (1, .int .i64 v), (6, .pointer (some ⟨gz, 0, none⟩)), (4, .pointer (some ⟨g4, 0, none⟩))]) (fun x => [entBlk gz 50 #[.int .i64 v, .int .i64 (zoneK cs v Z0 x.1).zf, .int .i64 (zoneK cs v Z0 x.1).zl, .bool false], entBlk g4 50 #[.int .i64 0, .int .i64 0, .int .i64 0, .bool false]]) (fun x => x.1 ≤ cs.length ∧ x.2 ≤ x.1 ∧ (zoneK cs v Z0 x.1).some_ = (Z0.some_ || decide (0 < x.2))) (fun x => cs.length - x.1) (0, 0) ⟨by (try dsimp only); omega, by (try dsimp only); omega, by simp [zoneK]⟩ (by (try dsimp only); (repeat (first | exact SubE.nil _ | refine SubE.cons rfl ?_))) (fun w' hw => by (try dsimp only); rw [show zoneK cs v Z0 0 = Z0 from rfl, hZ1]; exact hw.sel (by (repeat (first | exact Sel.nil _ | (apply Sel.cons; (repeat (first | with_reducible exact Pick.here _ _ | with_reducible apply Pick.there))))))) ?_)
  rintro ⟨k, r⟩ ⟨hk, hrk, hsm⟩
  dsimp only at hk hrk hsm ⊢
  by_cases hkl : k < cs.length
  · obtain ⟨b, o, rfl, _⟩ := RdE.open hA (by omega)
    have hck := clK_eq hkl
    have hz1 : zoneK cs v Z0 (k + 1) = readZ cs v (zoneK cs v Z0 k) k := rfl
    have hr1 : isRd cs v k = (decide (cs[k].kind = 2) && (decide (cs[k].to ≠ -1) && decide (cs[k].res = v))) := by unfold isRd; rw [hck]
    by_cases hrd : cs[k].kind = 2 ∧ cs[k].to ≠ -1 ∧ cs[k].res = v
    · obtain ⟨q1, q2, q3⟩ := hrd
      rw [readZ_yes (by rw [hr1, decide_eq_true q1, decide_eq_true q2, decide_eq_true q3]; rfl), hck] at hz1
      have hr2 : (((r + 1 : Nat) : Int)) = ((r : Nat) : Int) + 1 := by omega
      generalize zoneK cs v Z0 k = Z at *
      repeat' (first | (refine GO ?_) | (refine GOE ?_; (first | (rintro _ _ ⟨rfl, rfl⟩) | (rintro _ _ ⟨g, rfl, rfl⟩) | (rintro _ _ ⟨A', c', rfl, rfl⟩))) | ((refine GO2 ?_ ?_) <;> intro h <;> (try (repeat (first | with_reducible (replace h := of_decide_eq_true h) | with_reducible (replace h := of_decide_eq_false h) | with_reducible (replace h := bnt h) | with_reducible (replace h := bnf h) | with_reducible (replace h := Int.not_lt.mp h) | with_reducible (replace h := Int.not_le.mp h) | with_reducible (replace h := band_dec h) | with_reducible (replace h := band_decF h) | with_reducible (replace h := bor_dec h) | with_reducible (replace h := bor_decF h)))) <;> (try (exfalso; first | contradiction | omega))) | fail)
      all_goals
        apply At_rounds (k + 1, r + 1)
        case hE => (try dsimp only); (repeat (first | exact SubE.nil _ | refine SubE.cons rfl ?_))
        case hS => (try dsimp only); rw [hz1]; (try dsimp only); (first | rw [if_pos (by omega)] | rw [if_neg (by omega)]); (first | rw [if_pos (by omega)] | rw [if_neg (by omega)]); exact fun w' hw => hw.sel (by (repeat (first | exact Sel.nil _ | (apply Sel.cons; (repeat (first | with_reducible exact Pick.here _ _ | with_reducible apply Pick.there))))))
        case hμ => (try dsimp only); omega
        case hp => exact ⟨hkl, by (try dsimp only); omega, by (try dsimp only); rw [hz1]; simp⟩
    · rw [readZ_no (by
        rw [hr1, Bool.eq_false_iff]
        intro e
        simp only [Bool.and_eq_true, decide_eq_true_eq] at e
        exact hrd ⟨e.1, e.2.1, e.2.2⟩)] at hz1
      generalize zoneK cs v Z0 k = Z at *
      by_cases q1 : cs[k].kind = 2
      · by_cases q2 : cs[k].to = -1
        · repeat' (first | (refine GO ?_) | (refine GOE ?_; (first | (rintro _ _ ⟨rfl, rfl⟩) | (rintro _ _ ⟨g, rfl, rfl⟩) | (rintro _ _ ⟨A', c', rfl, rfl⟩))) | ((refine GO2 ?_ ?_) <;> intro h <;> (try (repeat (first | with_reducible (replace h := of_decide_eq_true h) | with_reducible (replace h := of_decide_eq_false h) | with_reducible (replace h := bnt h) | with_reducible (replace h := bnf h) | with_reducible (replace h := Int.not_lt.mp h) | with_reducible (replace h := Int.not_le.mp h) | with_reducible (replace h := band_dec h) | with_reducible (replace h := band_decF h) | with_reducible (replace h := bor_dec h) | with_reducible (replace h := bor_decF h)))) <;> (try (exfalso; first | contradiction | omega))) | fail)
          all_goals
            apply At_rounds (k + 1, r)
            case hE => (try dsimp only); (repeat (first | exact SubE.nil _ | refine SubE.cons rfl ?_))
            case hS => (try dsimp only); rw [hz1]; exact fun w' hw => hw.sel (by (repeat (first | exact Sel.nil _ | (apply Sel.cons; (repeat (first | with_reducible exact Pick.here _ _ | with_reducible apply Pick.there))))))
            case hμ => (try dsimp only); omega
            case hp => exact ⟨hkl, by (try dsimp only); omega, by (try dsimp only); rw [hz1]; exact hsm⟩
        · have q3 : ¬ cs[k].res = v := fun e => hrd ⟨q1, q2, e⟩
          repeat' (first | (refine GO ?_) | (refine GOE ?_; (first | (rintro _ _ ⟨rfl, rfl⟩) | (rintro _ _ ⟨g, rfl, rfl⟩) | (rintro _ _ ⟨A', c', rfl, rfl⟩))) | ((refine GO2 ?_ ?_) <;> intro h <;> (try (repeat (first | with_reducible (replace h := of_decide_eq_true h) | with_reducible (replace h := of_decide_eq_false h) | with_reducible (replace h := bnt h) | with_reducible (replace h := bnf h) | with_reducible (replace h := Int.not_lt.mp h) | with_reducible (replace h := Int.not_le.mp h) | with_reducible (replace h := band_dec h) | with_reducible (replace h := band_decF h) | with_reducible (replace h := bor_dec h) | with_reducible (replace h := bor_decF h)))) <;> (try (exfalso; first | contradiction | omega))) | fail)
          all_goals
            apply At_rounds (k + 1, r)
            case hE => (try dsimp only); (repeat (first | exact SubE.nil _ | refine SubE.cons rfl ?_))
            case hS => (try dsimp only); rw [hz1]; exact fun w' hw => hw.sel (by (repeat (first | exact Sel.nil _ | (apply Sel.cons; (repeat (first | with_reducible exact Pick.here _ _ | with_reducible apply Pick.there))))))
            case hμ => (try dsimp only); omega
            case hp => exact ⟨hkl, by (try dsimp only); omega, by (try dsimp only); rw [hz1]; exact hsm⟩
      · repeat' (first | (refine GO ?_) | (refine GOE ?_; (first | (rintro _ _ ⟨rfl, rfl⟩) | (rintro _ _ ⟨g, rfl, rfl⟩) | (rintro _ _ ⟨A', c', rfl, rfl⟩))) | ((refine GO2 ?_ ?_) <;> intro h <;> (try (repeat (first | with_reducible (replace h := of_decide_eq_true h) | with_reducible (replace h := of_decide_eq_false h) | with_reducible (replace h := bnt h) | with_reducible (replace h := bnf h) | with_reducible (replace h := Int.not_lt.mp h) | with_reducible (replace h := Int.not_le.mp h) | with_reducible (replace h := band_dec h) | with_reducible (replace h := band_decF h) | with_reducible (replace h := bor_dec h) | with_reducible (replace h := bor_decF h)))) <;> (try (exfalso; first | contradiction | omega))) | fail)
        all_goals
          apply At_rounds (k + 1, r)
          case hE => (try dsimp only); (repeat (first | exact SubE.nil _ | refine SubE.cons rfl ?_))
          case hS => (try dsimp only); rw [hz1]; exact fun w' hw => hw.sel (by (repeat (first | exact Sel.nil _ | (apply Sel.cons; (repeat (first | with_reducible exact Pick.here _ _ | with_reducible apply Pick.there))))))
          case hμ => (try dsimp only); omega
          case hp => exact ⟨hkl, by (try dsimp only); omega, by (try dsimp only); rw [hz1]; exact hsm⟩
  · obtain rfl : k = cs.length := by omega
    have hend : endD cs v = zoneK cs v Z0 cs.length := by unfold endD; rw [hZ0]
    unfold zonD okD
    rw [hend, hsm]
    generalize zoneK cs v Z0 cs.length = Z at *
    by_cases hr0 : 0 < r
    · have hr3 : (0 : Int) < ((r : Nat) : Int) := by omega
      repeat' (first | (refine GO ?_) | (refine GOE ?_; (first | (rintro _ _ ⟨rfl, rfl⟩) | (rintro _ _ ⟨g, rfl, rfl⟩) | (rintro _ _ ⟨A', c', rfl, rfl⟩))) | ((refine GO2 ?_ ?_) <;> intro h <;> (try (repeat (first | with_reducible (replace h := of_decide_eq_true h) | with_reducible (replace h := of_decide_eq_false h) | with_reducible (replace h := bnt h) | with_reducible (replace h := bnf h) | with_reducible (replace h := Int.not_lt.mp h) | with_reducible (replace h := Int.not_le.mp h) | with_reducible (replace h := band_dec h) | with_reducible (replace h := band_decF h) | with_reducible (replace h := bor_dec h) | with_reducible (replace h := bor_decF h)))) <;> (try (exfalso; first | contradiction | omega))) | fail)
      all_goals (((with_reducible apply At_retM Try.results14); (repeat (first | exact ResIs.nil | (apply ResIs.tmp; exact rfl) | (apply ResIs.cell; exact rfl; exact Lds.auto))); intro w' hw); exact ⟨by simp [resVal, Zon.enc_mk, hZ1, hr3, *], hw.below0 rfl⟩)
    · obtain rfl : r = 0 := by omega
      have hr3 : ¬ (0 : Int) < ((0 : Nat) : Int) := by omega
      repeat' (first | (refine GO ?_) | (refine GOE ?_; (first | (rintro _ _ ⟨rfl, rfl⟩) | (rintro _ _ ⟨g, rfl, rfl⟩) | (rintro _ _ ⟨A', c', rfl, rfl⟩))) | ((refine GO2 ?_ ?_) <;> intro h <;> (try (repeat (first | with_reducible (replace h := of_decide_eq_true h) | with_reducible (replace h := of_decide_eq_false h) | with_reducible (replace h := bnt h) | with_reducible (replace h := bnf h) | with_reducible (replace h := Int.not_lt.mp h) | with_reducible (replace h := Int.not_le.mp h) | with_reducible (replace h := band_dec h) | with_reducible (replace h := band_decF h) | with_reducible (replace h := bor_dec h) | with_reducible (replace h := bor_decF h)))) <;> (try (exfalso; first | contradiction | omega))) | fail)
      all_goals (((with_reducible apply At_retM Try.results14); (repeat (first | exact ResIs.nil | (apply ResIs.tmp; exact rfl) | (apply ResIs.cell; exact rfl; exact Lds.auto))); intro w' hw); exact ⟨by simp [resVal, Zon.enc_mk, hZ1, hr3, *], hw.below0 rfl⟩)
end
end Go.Proofs.Ytaonijdhmgcbjaa
