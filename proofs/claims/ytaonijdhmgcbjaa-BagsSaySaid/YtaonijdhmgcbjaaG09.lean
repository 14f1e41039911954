/- Lemmas for the walks (Bg3, Obj1, Ifc, S). No condition. -/
import Derived.Test.YtaonijdhmgcbjaaG08
import Derived.Test.YtaonijdhmgcbjaaG01
import Derived.Test.YtaonijdhmgcbjaaG05
set_option linter.unusedSimpArgs false
set_option linter.unusedVariables false
set_option linter.unusedSectionVars false
set_option linter.unnecessarySimpa false
namespace Go.Proofs.Ytaonijdhmgcbjaa
open Go.RowKit
set_option linter.unusedSectionVars false

set_option maxRecDepth 100000 in
theorem btypes_any (w : World) : Calls Try.prog 40 #[] w fun e w' => ∃ A c, e = .returned (.slice A [(4 : Int)].length c) ∧ Own intEnc 1 3 w' w.heap.size (.slice A [(4 : Int)].length c) [4] ∧ Below w.heap.size w w' := by
  refine calls_T (S := []) [] Try.func40 rfl Try.ntmps40 (by simp) (Mem.nil _) ?_
  repeat' (first | (refine GO ?_) | (refine GOE ?_; (first | (rintro _ _ ⟨rfl, rfl⟩) | (rintro _ _ ⟨g, rfl, rfl⟩) | (rintro _ _ ⟨A', c', rfl, rfl⟩))) | ((refine GO2 ?_ ?_) <;> intro h <;> (try (repeat (first | with_reducible (replace h := of_decide_eq_true h) | with_reducible (replace h := of_decide_eq_false h) | with_reducible (replace h := bnt h) | with_reducible (replace h := bnf h) | with_reducible (replace h := Int.not_lt.mp h) | with_reducible (replace h := Int.not_le.mp h) | with_reducible (replace h := band_dec h) | with_reducible (replace h := band_decF h) | with_reducible (replace h := bor_dec h) | with_reducible (replace h := bor_decF h)))) <;> (try (exfalso; first | contradiction | omega))) | fail)
  (refine At_ret Try.results40 rfl (fun w' hw => ?_))
  have hw2 : Mem _ w' [entOwn intEnc 1 3 (some ⟨g, 0, none⟩) 1 [4]] := Mem.asOwn (enc := intEnc) (M := 1) [4] (Upd.here _ _ _) rfl (fun _ => rfl) (by decide) hw
  exact ⟨some ⟨g, 0, none⟩, 1, rfl, hw2.ownOut rfl (by first | ((repeat (first | with_reducible exact List.mem_cons_self | with_reducible apply List.mem_cons_of_mem)); done) | (repeat (first | exact List.Mem.head _ | apply List.Mem.tail))), hw.below0 rfl⟩
/-- what Part answers -/
def bpE (l : List Ev) (n : Int) : Int := if (callsR [4] l).2.2 ≠ 0 then (callsR [4] l).2.2 else if n < 1 ∨ 1000 < n then 1 else 0
def bpR (l : List Ev) (n : Int) : List Ev := if bpE l n = 0 then keepL l (bagP l n) l.length else []
theorem who8 {ts : List Int} {l : List Ev} (hv : ∀ j, j < l.length → erR ts l j = 0) : ∀ k (h : k < l.length), 0 ≤ l[k].who ∧ l[k].who < 8 := fun k h => by
  have h1 := (evR_yes (hv k h)).1
  rw [gd h] at h1
  simp only [formBad, Bool.or_eq_false_iff, decide_eq_false_iff_not] at h1
  omega
section
variable (B : Option Addr) (d : Nat) (l : List Ev) (n : Int) (w : World) (hl : l.length ≤ 9223372036854775807) (hA : RdEv w B l)
include hl hA
set_option maxRecDepth 100000 in
set_option maxHeartbeats 4000000 in
theorem bPart_any : Calls Try.prog 17 #[.slice B l.length d, .int .i64 n] w fun e w' => ∃ A c, e = .returned (.tuple #[.slice A (bpR l n).length c, .int .i64 (bpE l n)]) ∧ Own Ev.enc 4 34 w' w.heap.size (.slice A (bpR l n).length c) (bpR l n) ∧ Below w.heap.size w w' := by
  have h1 := fun T c w h1 h2 => callsCode_any T B c d [4] l w (by decide) hl h1 h2
  have hin := callsR_inv (ts := [4]) (l := l)
  unfold bpR bpE
  obtain ⟨cs, y, z, hcr⟩ : ∃ cs y z, callsR [4] l = (cs, y, z) := ⟨_, _, _, rfl⟩
  rw [hcr] at h1 hin ⊢
  dsimp only at h1 hin ⊢
  clear hcr
  refine calls_T (S := []) [] Try.func17 rfl Try.ntmps17 (by simp) (Mem.nil _) ?_
  by_cases hz : z = 0
  · rw [if_neg (show ¬ z ≠ 0 by omega)]
    obtain ⟨_, h200, hv, _⟩ := hin hz
    have hpa := fun w h => bpart_any B d l n w h200 h (who8 hv)
    by_cases hn : n < 1 ∨ 1000 < n
    · rw [if_pos hn, if_neg (by decide)]
      repeat' (first | (refine GO ?_) | (refine GOE ?_; (first | (rintro _ _ ⟨rfl, rfl⟩) | (rintro _ _ ⟨g, rfl, rfl⟩) | (rintro _ _ ⟨A', c', rfl, rfl⟩))) | ((refine GO2 ?_ ?_) <;> intro h <;> (try (repeat (first | with_reducible (replace h := of_decide_eq_true h) | with_reducible (replace h := of_decide_eq_false h) | with_reducible (replace h := bnt h) | with_reducible (replace h := bnf h) | with_reducible (replace h := Int.not_lt.mp h) | with_reducible (replace h := Int.not_le.mp h) | with_reducible (replace h := band_dec h) | with_reducible (replace h := band_decF h) | with_reducible (replace h := bor_dec h) | with_reducible (replace h := bor_decF h)))) <;> (try (exfalso; first | contradiction | omega))) | ((with_reducible (first | apply TD_e2z | apply TD_e3z | apply TL_e | apply TD_e2 | apply TD_e3)); ((with_reducible apply ES_callOwn (f := 40)); exact rfl; (intro w hw; exact btypes_any w); exact rfl); (first | exact rfl | exact ⟨rfl, rfl, rfl⟩); (rintro _ _ ⟨A1, c1, rfl, rfl⟩); (try refine ⟨SUB, ?_⟩)) | ((with_reducible (first | apply TD_e2z | apply TD_e3z | apply TL_e | apply TD_e2 | apply TD_e3)); ((with_reducible apply ES_callOwn (f := 39)); exact rfl; (intro w hw; exact h1 A1 c1 w (hw.ownRd (by first | ((repeat (first | with_reducible exact List.mem_cons_self | with_reducible apply List.mem_cons_of_mem)); done) | (repeat (first | exact List.Mem.head _ | apply List.Mem.tail))) (fun _ => rfl)) (hw.rd rfl hA)); exact rfl); (first | exact rfl | exact ⟨rfl, rfl, rfl⟩); (rintro _ _ ⟨A2, c2, rfl, rfl⟩); (try refine ⟨SUB, ?_⟩)) | fail)
      all_goals first
        | ((refine At_ret Try.results17 rfl (fun w' hw => ?_)); exact ⟨none, 0, rfl, Own.nil _ _, hw.below0 rfl⟩)
        | (exfalso; omega)
    · rw [if_neg hn, if_pos rfl]
      repeat' (first | (refine GO ?_) | (refine GOE ?_; (first | (rintro _ _ ⟨rfl, rfl⟩) | (rintro _ _ ⟨g, rfl, rfl⟩) | (rintro _ _ ⟨A', c', rfl, rfl⟩))) | ((refine GO2 ?_ ?_) <;> intro h <;> (try (repeat (first | with_reducible (replace h := of_decide_eq_true h) | with_reducible (replace h := of_decide_eq_false h) | with_reducible (replace h := bnt h) | with_reducible (replace h := bnf h) | with_reducible (replace h := Int.not_lt.mp h) | with_reducible (replace h := Int.not_le.mp h) | with_reducible (replace h := band_dec h) | with_reducible (replace h := band_decF h) | with_reducible (replace h := bor_dec h) | with_reducible (replace h := bor_decF h)))) <;> (try (exfalso; first | contradiction | omega))) | ((with_reducible (first | apply TD_e2z | apply TD_e3z | apply TL_e | apply TD_e2 | apply TD_e3)); ((with_reducible apply ES_callOwn (f := 40)); exact rfl; (intro w hw; exact btypes_any w); exact rfl); (first | exact rfl | exact ⟨rfl, rfl, rfl⟩); (rintro _ _ ⟨A1, c1, rfl, rfl⟩); (try refine ⟨SUB, ?_⟩)) | ((with_reducible (first | apply TD_e2z | apply TD_e3z | apply TL_e | apply TD_e2 | apply TD_e3)); ((with_reducible apply ES_callOwn (f := 39)); exact rfl; (intro w hw; exact h1 A1 c1 w (hw.ownRd (by first | ((repeat (first | with_reducible exact List.mem_cons_self | with_reducible apply List.mem_cons_of_mem)); done) | (repeat (first | exact List.Mem.head _ | apply List.Mem.tail))) (fun _ => rfl)) (hw.rd rfl hA)); exact rfl); (first | exact rfl | exact ⟨rfl, rfl, rfl⟩); (rintro _ _ ⟨A2, c2, rfl, rfl⟩); (try refine ⟨SUB, ?_⟩)) | ((with_reducible (first | apply TD_e2z | apply TD_e3z | apply TL_e | apply TD_e2 | apply TD_e3)); ((with_reducible apply ES_callOwn (f := 41)); exact rfl; (intro w hw; exact hpa w (hw.rd rfl hA)); exact rfl); (first | exact rfl | exact ⟨rfl, rfl, rfl⟩); (rintro _ _ ⟨A3, c3, rfl, rfl⟩); (try refine ⟨SUB, ?_⟩)) | fail)
      all_goals first
        | ((refine At_ret Try.results17 rfl (fun w' hw => ?_)); exact ⟨A3, c3, rfl, hw.ownOut rfl (by first | ((repeat (first | with_reducible exact List.mem_cons_self | with_reducible apply List.mem_cons_of_mem)); done) | (repeat (first | exact List.Mem.head _ | apply List.Mem.tail))), hw.below0 rfl⟩)
        | (exfalso; omega)
  · rw [if_pos hz, if_neg hz]
    repeat' (first | (refine GO ?_) | (refine GOE ?_; (first | (rintro _ _ ⟨rfl, rfl⟩) | (rintro _ _ ⟨g, rfl, rfl⟩) | (rintro _ _ ⟨A', c', rfl, rfl⟩))) | ((refine GO2 ?_ ?_) <;> intro h <;> (try (repeat (first | with_reducible (replace h := of_decide_eq_true h) | with_reducible (replace h := of_decide_eq_false h) | with_reducible (replace h := bnt h) | with_reducible (replace h := bnf h) | with_reducible (replace h := Int.not_lt.mp h) | with_reducible (replace h := Int.not_le.mp h) | with_reducible (replace h := band_dec h) | with_reducible (replace h := band_decF h) | with_reducible (replace h := bor_dec h) | with_reducible (replace h := bor_decF h)))) <;> (try (exfalso; first | contradiction | omega))) | ((with_reducible (first | apply TD_e2z | apply TD_e3z | apply TL_e | apply TD_e2 | apply TD_e3)); ((with_reducible apply ES_callOwn (f := 40)); exact rfl; (intro w hw; exact btypes_any w); exact rfl); (first | exact rfl | exact ⟨rfl, rfl, rfl⟩); (rintro _ _ ⟨A1, c1, rfl, rfl⟩); (try refine ⟨SUB, ?_⟩)) | ((with_reducible (first | apply TD_e2z | apply TD_e3z | apply TL_e | apply TD_e2 | apply TD_e3)); ((with_reducible apply ES_callOwn (f := 39)); exact rfl; (intro w hw; exact h1 A1 c1 w (hw.ownRd (by first | ((repeat (first | with_reducible exact List.mem_cons_self | with_reducible apply List.mem_cons_of_mem)); done) | (repeat (first | exact List.Mem.head _ | apply List.Mem.tail))) (fun _ => rfl)) (hw.rd rfl hA)); exact rfl); (first | exact rfl | exact ⟨rfl, rfl, rfl⟩); (rintro _ _ ⟨A2, c2, rfl, rfl⟩); (try refine ⟨SUB, ?_⟩)) | fail)
    all_goals first
      | ((refine At_ret Try.results17 rfl (fun w' hw => ?_)); exact ⟨none, 0, rfl, Own.nil _ _, hw.below0 rfl⟩)
      | (exfalso; omega)
end
theorem filt_succ {cs : List Cl} {p : Cl → Bool} {k : Nat} (hk : k < cs.length) : (cs.take (k + 1)).filter p = if p cs[k] = true then (cs.take k).filter p ++ [cs[k]] else (cs.take k).filter p := by
  rw [List.take_succ_eq_append_getElem hk, List.filter_append, List.filter_cons, List.filter_nil]
  split <;> simp
section
variable (A : Option Addr) (c : Nat) (cs : List Cl) (w : World) (hl : cs.length ≤ 200) (hA : RdCl w A cs)
include hl hA
set_option maxRecDepth 100000 in
set_option maxHeartbeats 4000000 in
theorem bagCalls_any (n : Int) : Calls Try.prog 22 #[.slice A cs.length c, .int .i64 n] w fun e w' => ∃ A c, e = .returned (.slice A (cs.filter (bagA n)).length c) ∧ Own Cl.enc 7 107 w' w.heap.size (.slice A (cs.filter (bagA n)).length c) (cs.filter (bagA n)) ∧ Below w.heap.size w w' := by
  refine calls_T (S := []) [] Try.func22 rfl Try.ntmps22 (by simp) (Mem.nil _) ?_
  repeat' (first | (refine GO ?_) | (refine GOE ?_; (first | (rintro _ _ ⟨rfl, rfl⟩) | (rintro _ _ ⟨g, rfl, rfl⟩) | (rintro _ _ ⟨A', c', rfl, rfl⟩))) | ((refine GO2 ?_ ?_) <;> intro h <;> (try (repeat (first | with_reducible (replace h := of_decide_eq_true h) | with_reducible (replace h := of_decide_eq_false h) | with_reducible (replace h := bnt h) | with_reducible (replace h := bnf h) | with_reducible (replace h := Int.not_lt.mp h) | with_reducible (replace h := Int.not_le.mp h) | with_reducible (replace h := band_dec h) | with_reducible (replace h := band_decF h) | with_reducible (replace h := bor_dec h) | with_reducible (replace h := bor_decF h)))) <;> (try (exfalso; first | contradiction | omega))) | fail)
  refine T_loop (X := Nat × Option Addr × Nat) (fun x => [(10, .int .i64 (x.1 : Nat)), (9, .int .i64 cs.length), (8, .slice A cs.length c), (5, .slice x.2.1 ((cs.take x.1).filter (bagA n)).length x.2.2), (1, .int .i64 n)]) (fun x => [entOwn Cl.enc 7 107 x.2.1 x.2.2 ((cs.take x.1).filter (bagA n))]) (fun x => x.1 ≤ cs.length) (fun x => cs.length - x.1) (0, none, 0) (by (try dsimp only); omega) (by (try dsimp only); (repeat (first | exact SubE.nil _ | refine SubE.cons rfl ?_))) (fun w hw => (hw.nilOwn Cl.enc 7 107).sub (by first | ((repeat (first | with_reducible exact List.nil_sublist _ | with_reducible exact List.Sublist.refl _ | with_reducible apply List.Sublist.cons_cons | with_reducible apply List.Sublist.cons)); done) | (repeat (first | exact List.nil_sublist _ | exact List.Sublist.refl _ | apply List.Sublist.cons_cons | apply List.Sublist.cons)))) ?_
  rintro ⟨k, A1, c1⟩ hk
  dsimp only at hk ⊢
  by_cases hkl : k < cs.length
  · obtain ⟨b, o, rfl, _⟩ := RdE.open hA (by omega)
    have hfs := filt_succ (p := bagA n) hkl
    have hfl : ((cs.take k).filter (bagA n)).length ≤ k := Nat.le_trans (List.length_filter_le _ _) (by rw [List.length_take]; omega)
    generalize (cs.take k).filter (bagA n) = K at *
    by_cases hb : cs[k].arg = n
    · rw [if_pos (by unfold bagA; exact decide_eq_true hb)] at hfs
      repeat' (first | (refine GO ?_) | (refine GOE ?_; (first | (rintro _ _ ⟨rfl, rfl⟩) | (rintro _ _ ⟨g, rfl, rfl⟩) | (rintro _ _ ⟨A', c', rfl, rfl⟩))) | ((refine GO2 ?_ ?_) <;> intro h <;> (try (repeat (first | with_reducible (replace h := of_decide_eq_true h) | with_reducible (replace h := of_decide_eq_false h) | with_reducible (replace h := bnt h) | with_reducible (replace h := bnf h) | with_reducible (replace h := Int.not_lt.mp h) | with_reducible (replace h := Int.not_le.mp h) | with_reducible (replace h := band_dec h) | with_reducible (replace h := band_decF h) | with_reducible (replace h := bor_dec h) | with_reducible (replace h := bor_decF h)))) <;> (try (exfalso; first | contradiction | omega))) | ((with_reducible (first | apply TD_e2z | apply TD_e3z | apply TL_e | apply TD_e2 | apply TD_e3)); ((with_reducible apply ES_append1 (enc := Cl.enc) (xx := cs[k])); exact rfl; exact rfl; (repeat (first | with_reducible exact List.mem_cons_self | with_reducible apply List.mem_cons_of_mem)); exact rfl; exact fun _ => rfl; exact fun _ => rfl; (intro A' c'; first | ((repeat (first | with_reducible exact Upd.here _ _ _ | with_reducible apply Upd.there)); done) | (repeat (first | exact Upd.here _ _ _ | apply Upd.there))); (omega); decide; exact rfl); (first | exact rfl | exact ⟨rfl, rfl, rfl⟩); (rintro _ _ ⟨A', c', rfl, rfl⟩); (try refine ⟨SUB, ?_⟩)) | fail)
      all_goals first
        | (exfalso; omega)
        | (apply At_rounds (k + 1, A', c'); (case hE => (try dsimp only); rw [hfs]; (repeat (first | exact SubE.nil _ | refine SubE.cons rfl ?_))); (case hS => (try dsimp only); rw [hfs]; exact fun w' hw => hw.sel (by (repeat (first | exact Sel.nil _ | (apply Sel.cons; (repeat (first | with_reducible exact Pick.here _ _ | with_reducible apply Pick.there))))))); (case hμ => (try dsimp only); omega); (case hp => (try dsimp only); omega))
    · rw [if_neg (by unfold bagA; simpa using hb)] at hfs
      repeat' (first | (refine GO ?_) | (refine GOE ?_; (first | (rintro _ _ ⟨rfl, rfl⟩) | (rintro _ _ ⟨g, rfl, rfl⟩) | (rintro _ _ ⟨A', c', rfl, rfl⟩))) | ((refine GO2 ?_ ?_) <;> intro h <;> (try (repeat (first | with_reducible (replace h := of_decide_eq_true h) | with_reducible (replace h := of_decide_eq_false h) | with_reducible (replace h := bnt h) | with_reducible (replace h := bnf h) | with_reducible (replace h := Int.not_lt.mp h) | with_reducible (replace h := Int.not_le.mp h) | with_reducible (replace h := band_dec h) | with_reducible (replace h := band_decF h) | with_reducible (replace h := bor_dec h) | with_reducible (replace h := bor_decF h)))) <;> (try (exfalso; first | contradiction | omega))) | fail)
      all_goals first
        | (exfalso; omega)
        | (apply At_rounds (k + 1, A1, c1); (case hE => (try dsimp only); rw [hfs]; (repeat (first | exact SubE.nil _ | refine SubE.cons rfl ?_))); (case hS => (try dsimp only); rw [hfs]; exact fun w' hw => hw.sel (by (repeat (first | exact Sel.nil _ | (apply Sel.cons; (repeat (first | with_reducible exact Pick.here _ _ | with_reducible apply Pick.there))))))); (case hμ => (try dsimp only); omega); (case hp => (try dsimp only); omega))
  · obtain rfl : k = cs.length := by omega
    rw [List.take_length]
    repeat' (first | (refine GO ?_) | (refine GOE ?_; (first | (rintro _ _ ⟨rfl, rfl⟩) | (rintro _ _ ⟨g, rfl, rfl⟩) | (rintro _ _ ⟨A', c', rfl, rfl⟩))) | ((refine GO2 ?_ ?_) <;> intro h <;> (try (repeat (first | with_reducible (replace h := of_decide_eq_true h) | with_reducible (replace h := of_decide_eq_false h) | with_reducible (replace h := bnt h) | with_reducible (replace h := bnf h) | with_reducible (replace h := Int.not_lt.mp h) | with_reducible (replace h := Int.not_le.mp h) | with_reducible (replace h := band_dec h) | with_reducible (replace h := band_decF h) | with_reducible (replace h := bor_dec h) | with_reducible (replace h := bor_decF h)))) <;> (try (exfalso; first | contradiction | omega))) | fail)
    (refine At_ret Try.results22 rfl (fun w' hw => ?_))
    exact ⟨A1, c1, rfl, hw.ownOut rfl (by first | ((repeat (first | with_reducible exact List.mem_cons_self | with_reducible apply List.mem_cons_of_mem)); done) | (repeat (first | exact List.Mem.head _ | apply List.Mem.tail))), hw.below0 rfl⟩
end
section
variable (B A : Option Addr) (d c : Nat) (l : List Ev) (own : List Cl) (w : World) (hl : l.length ≤ 200) (hol : own.length ≤ 200) (hB : RdEv w B l) (hA : RdCl w A own)
include hl hol hB hA
set_option maxRecDepth 100000 in
set_option maxHeartbeats 4000000 in
theorem bagEvents_any : Calls Try.prog 21 #[.slice B l.length d, .slice A own.length c] w fun e w' => ∃ A c, e = .returned (.slice A (bagEv l own l.length).length c) ∧ Own Ev.enc 4 34 w' w.heap.size (.slice A (bagEv l own l.length).length c) (bagEv l own l.length) ∧ Below w.heap.size w w' := by
  have hlen : ∀ k j, (bagEv l own k ++ ((own.take j).filter (atB k)).map fun _ => l.getD k default).length ≤ k * 200 + j := fun k j => by
    have h1 : ∀ k, (bagEv l own k).length ≤ k * 200 := fun k => by
      induction k with
      | zero => exact Nat.le_refl _
      | succ k ih =>
        rw [bagEv_succ, List.length_append, List.length_map]
        have := List.length_filter_le (atB k) own
        omega
    rw [List.length_append, List.length_map]
    have h2 := List.length_filter_le (atB k) (own.take j)
    rw [List.length_take] at h2
    have := h1 k
    omega
  refine calls_T (S := []) [] Try.func21 rfl Try.ntmps21 (by simp) (Mem.nil _) ?_
  repeat' (first | (refine GO ?_) | (refine GOE ?_; (first | (rintro _ _ ⟨rfl, rfl⟩) | (rintro _ _ ⟨g, rfl, rfl⟩) | (rintro _ _ ⟨A', c', rfl, rfl⟩))) | ((refine GO2 ?_ ?_) <;> intro h <;> (try (repeat (first | with_reducible (replace h := of_decide_eq_true h) | with_reducible (replace h := of_decide_eq_false h) | with_reducible (replace h := bnt h) | with_reducible (replace h := bnf h) | with_reducible (replace h := Int.not_lt.mp h) | with_reducible (replace h := Int.not_le.mp h) | with_reducible (replace h := band_dec h) | with_reducible (replace h := band_decF h) | with_reducible (replace h := bor_dec h) | with_reducible (replace h := bor_decF h)))) <;> (try (exfalso; first | contradiction | omega))) | fail)
  refine T_loop (X := Nat × Option Addr × Nat) (fun x => [(12, .int .i64 (x.1 : Nat)), (11, .int .i64 l.length), (10, .slice B l.length d), (5, .slice x.2.1 (bagEv l own x.1).length x.2.2), (1, .slice A own.length c)]) (fun x => [entOwn Ev.enc 4 34 x.2.1 x.2.2 (bagEv l own x.1)]) (fun x => x.1 ≤ l.length) (fun x => l.length - x.1) (0, none, 0) (by (try dsimp only); omega) (by (try dsimp only); (repeat (first | exact SubE.nil _ | refine SubE.cons rfl ?_))) (fun w hw => (hw.nilOwn Ev.enc 4 34).sub (by first | ((repeat (first | with_reducible exact List.nil_sublist _ | with_reducible exact List.Sublist.refl _ | with_reducible apply List.Sublist.cons_cons | with_reducible apply List.Sublist.cons)); done) | (repeat (first | exact List.nil_sublist _ | exact List.Sublist.refl _ | apply List.Sublist.cons_cons | apply List.Sublist.cons)))) ?_
  rintro ⟨k, A1, c1⟩ hk
  dsimp only at hk ⊢
  by_cases hkl : k < l.length
  · obtain ⟨b, o, rfl, _⟩ := RdE.open hB (by omega)
    have hs := bagEv_succ l own k
    have hl0 := fun j => hlen k j
    rw [gd hkl] at hs hl0
    obtain ⟨K, hK⟩ : ∃ K : Nat → List Ev, K = fun j => bagEv l own k ++ ((own.take j).filter (atB k)).map fun _ => l[k] := ⟨_, rfl⟩
    have hK0 : K 0 = bagEv l own k := by rw [hK]; simp
    have hKl : bagEv l own (k + 1) = K own.length := by rw [hK, hs]; dsimp only; rw [List.take_length]
    have hKs : ∀ j (hj : j < own.length), K (j + 1) = if atB k own[j] = true then K j ++ [l[k]] else K j := fun j hj => by
      rw [hK]
      dsimp only
      rw [filt_succ hj]
      split
      · rw [List.map_append, List.append_assoc]; rfl
      · rfl
    have hKb : ∀ j, (K j).length ≤ k * 200 + j := fun j => by rw [hK]; exact hl0 j
    rw [← hK0]
    clear hs hl0 hlen hK hK0
    repeat' (first | (refine GO ?_) | (refine GOE ?_; (first | (rintro _ _ ⟨rfl, rfl⟩) | (rintro _ _ ⟨g, rfl, rfl⟩) | (rintro _ _ ⟨A', c', rfl, rfl⟩))) | ((refine GO2 ?_ ?_) <;> intro h <;> (try (repeat (first | with_reducible (replace h := of_decide_eq_true h) | with_reducible (replace h := of_decide_eq_false h) | with_reducible (replace h := bnt h) | with_reducible (replace h := bnf h) | with_reducible (replace h := Int.not_lt.mp h) | with_reducible (replace h := Int.not_le.mp h) | with_reducible (replace h := band_dec h) | with_reducible (replace h := band_decF h) | with_reducible (replace h := bor_dec h) | with_reducible (replace h := bor_decF h)))) <;> (try (exfalso; first | contradiction | omega))) | fail)
    obtain ⟨g7, rfl⟩ : ∃ x, x = g := ⟨_, rfl⟩
    refine T_loop (X := Nat × Option Addr × Nat) (fun x => [(19, .int .i64 (x.1 : Nat)), (18, .int .i64 own.length), (17, .slice A own.length c), (7, .pointer (some ⟨g7, 0, none⟩)), (6, .int .i64 (k : Nat)), (12, .int .i64 (k : Nat)), (11, .int .i64 l.length), (10, .slice (some ⟨b, o, none⟩) l.length d), (5, .slice x.2.1 (K x.1).length x.2.2), (1, .slice A own.length c)]) (fun x => [entBlk g7 34 (Ev.enc l[k]).toArray, entOwn Ev.enc 4 34 x.2.1 x.2.2 (K x.1)]) (fun x => x.1 ≤ own.length) (fun x => own.length - x.1) (0, A1, c1) (by (try dsimp only); omega) (by (try dsimp only); (repeat (first | exact SubE.nil _ | refine SubE.cons rfl ?_))) (fun w hw => hw.sel (by (repeat (first | exact Sel.nil _ | (apply Sel.cons; (repeat (first | with_reducible exact Pick.here _ _ | with_reducible apply Pick.there))))))) ?_
    rintro ⟨j, A2, c2⟩ hj
    dsimp only at hj ⊢
    by_cases hjl : j < own.length
    · obtain ⟨b2, o2, rfl, _⟩ := RdE.open hA (by omega)
      have hs := hKs j hjl
      have hb := hKb j
      have hat : atB k own[j] = true ↔ own[j].from_ = (k : Int) ∨ own[j].to = (k : Int) := atB_iff
      by_cases h1 : own[j].from_ = (k : Int) ∨ own[j].to = (k : Int)
      · rw [if_pos (hat.2 h1)] at hs
        generalize K j = KJ at *
        have h1' : ¬ own[j].from_ = (k : Int) → ¬ own[j].to = (k : Int) → False := fun a b => h1.elim a b
        repeat' (first | (refine GO ?_) | (refine GOE ?_; (first | (rintro _ _ ⟨rfl, rfl⟩) | (rintro _ _ ⟨g, rfl, rfl⟩) | (rintro _ _ ⟨A', c', rfl, rfl⟩))) | ((refine GO2 ?_ ?_) <;> intro h <;> (try (repeat (first | with_reducible (replace h := of_decide_eq_true h) | with_reducible (replace h := of_decide_eq_false h) | with_reducible (replace h := bnt h) | with_reducible (replace h := bnf h) | with_reducible (replace h := Int.not_lt.mp h) | with_reducible (replace h := Int.not_le.mp h) | with_reducible (replace h := band_dec h) | with_reducible (replace h := band_decF h) | with_reducible (replace h := bor_dec h) | with_reducible (replace h := bor_decF h)))) <;> (try (exfalso; first | contradiction | omega))) | ((with_reducible (first | apply TD_e2z | apply TD_e3z | apply TL_e | apply TD_e2 | apply TD_e3)); ((with_reducible apply ES_append1 (enc := Ev.enc) (xx := l[k])); exact rfl; exact rfl; (repeat (first | with_reducible exact List.mem_cons_self | with_reducible apply List.mem_cons_of_mem)); exact rfl; exact fun _ => rfl; exact fun _ => rfl; (intro A' c'; first | ((repeat (first | with_reducible exact Upd.here _ _ _ | with_reducible apply Upd.there)); done) | (repeat (first | exact Upd.here _ _ _ | apply Upd.there))); (omega); decide; exact rfl); (first | exact rfl | exact ⟨rfl, rfl, rfl⟩); (rintro _ _ ⟨A', c', rfl, rfl⟩); (try refine ⟨SUB, ?_⟩)) | fail)
        all_goals first
          | (exfalso; exact h1' (by assumption) (by assumption))
          | (apply At_rounds (j + 1, A', c'); (case hE => (try dsimp only); rw [hs]; (repeat (first | exact SubE.nil _ | refine SubE.cons rfl ?_))); (case hS => (try dsimp only); rw [hs]; exact fun w' hw => hw.sel (by (repeat (first | exact Sel.nil _ | (apply Sel.cons; (repeat (first | with_reducible exact Pick.here _ _ | with_reducible apply Pick.there))))))); (case hμ => (try dsimp only); omega); (case hp => (try dsimp only); omega))
      · rw [if_neg (fun e => h1 (hat.1 e))] at hs
        have n1 : ¬ own[j].from_ = (k : Int) := fun e => h1 (.inl e)
        have n2 : ¬ own[j].to = (k : Int) := fun e => h1 (.inr e)
        generalize K j = KJ at *
        repeat' (first | (refine GO ?_) | (refine GOE ?_; (first | (rintro _ _ ⟨rfl, rfl⟩) | (rintro _ _ ⟨g, rfl, rfl⟩) | (rintro _ _ ⟨A', c', rfl, rfl⟩))) | ((refine GO2 ?_ ?_) <;> intro h <;> (try (repeat (first | with_reducible (replace h := of_decide_eq_true h) | with_reducible (replace h := of_decide_eq_false h) | with_reducible (replace h := bnt h) | with_reducible (replace h := bnf h) | with_reducible (replace h := Int.not_lt.mp h) | with_reducible (replace h := Int.not_le.mp h) | with_reducible (replace h := band_dec h) | with_reducible (replace h := band_decF h) | with_reducible (replace h := bor_dec h) | with_reducible (replace h := bor_decF h)))) <;> (try (exfalso; first | contradiction | omega))) | fail)
        all_goals first
          | (exfalso; exact n1 (by assumption))
          | (exfalso; exact n2 (by assumption))
          | (apply At_rounds (j + 1, A2, c2); (case hE => (try dsimp only); rw [hs]; (repeat (first | exact SubE.nil _ | refine SubE.cons rfl ?_))); (case hS => (try dsimp only); rw [hs]; exact fun w' hw => hw.sel (by (repeat (first | exact Sel.nil _ | (apply Sel.cons; (repeat (first | with_reducible exact Pick.here _ _ | with_reducible apply Pick.there))))))); (case hμ => (try dsimp only); omega); (case hp => (try dsimp only); omega))
    · obtain rfl : j = own.length := by omega
      repeat' (first | (refine GO ?_) | (refine GOE ?_; (first | (rintro _ _ ⟨rfl, rfl⟩) | (rintro _ _ ⟨g, rfl, rfl⟩) | (rintro _ _ ⟨A', c', rfl, rfl⟩))) | ((refine GO2 ?_ ?_) <;> intro h <;> (try (repeat (first | with_reducible (replace h := of_decide_eq_true h) | with_reducible (replace h := of_decide_eq_false h) | with_reducible (replace h := bnt h) | with_reducible (replace h := bnf h) | with_reducible (replace h := Int.not_lt.mp h) | with_reducible (replace h := Int.not_le.mp h) | with_reducible (replace h := band_dec h) | with_reducible (replace h := band_decF h) | with_reducible (replace h := bor_dec h) | with_reducible (replace h := bor_decF h)))) <;> (try (exfalso; first | contradiction | omega))) | fail)
      all_goals (apply At_rounds (k + 1, A2, c2); (case hE => (try dsimp only); rw [hKl]; (repeat (first | exact SubE.nil _ | refine SubE.cons rfl ?_))); (case hS => (try dsimp only); rw [hKl]; exact fun w' hw => hw.sel (by (repeat (first | exact Sel.nil _ | (apply Sel.cons; (repeat (first | with_reducible exact Pick.here _ _ | with_reducible apply Pick.there))))))); (case hμ => (try dsimp only); omega); (case hp => (try dsimp only); omega))
  · obtain rfl : k = l.length := by omega
    repeat' (first | (refine GO ?_) | (refine GOE ?_; (first | (rintro _ _ ⟨rfl, rfl⟩) | (rintro _ _ ⟨g, rfl, rfl⟩) | (rintro _ _ ⟨A', c', rfl, rfl⟩))) | ((refine GO2 ?_ ?_) <;> intro h <;> (try (repeat (first | with_reducible (replace h := of_decide_eq_true h) | with_reducible (replace h := of_decide_eq_false h) | with_reducible (replace h := bnt h) | with_reducible (replace h := bnf h) | with_reducible (replace h := Int.not_lt.mp h) | with_reducible (replace h := Int.not_le.mp h) | with_reducible (replace h := band_dec h) | with_reducible (replace h := band_decF h) | with_reducible (replace h := bor_dec h) | with_reducible (replace h := bor_decF h)))) <;> (try (exfalso; first | contradiction | omega))) | fail)
    (refine At_ret Try.results21 rfl (fun w' hw => ?_))
    exact ⟨A1, c1, rfl, hw.ownOut rfl (by first | ((repeat (first | with_reducible exact List.mem_cons_self | with_reducible apply List.mem_cons_of_mem)); done) | (repeat (first | exact List.Mem.head _ | apply List.Mem.tail))), hw.below0 rfl⟩
end
end Go.Proofs.Ytaonijdhmgcbjaa

namespace Go.Proofs.Ytaonijdhmgcbjaa
/-! Sets as ascending lists -/
def Asc (s : List Int) : Prop := s.Pairwise (· < ·)
def posI (s : List Int) (a : Int) : Nat := (s.takeWhile (fun x => decide (x < a))).length
def setStep (kind a : Int) (st : Int × List Int × Bool) (x : Int) : Int × List Int × Bool :=
  let was := if x = a then 1 else st.1
  let p := if a ≤ x ∧ st.2.2 = false then (st.2.1 ++ [a], true) else (st.2.1, st.2.2)
  (was, if x ≠ a ∨ kind = 9 then p.1 ++ [x] else p.1, p.2)
def setFin (kind a : Int) (st : Int × List Int × Bool) : List Int × Int :=
  (if st.2.2 = false then st.2.1 ++ [a] else st.2.1, if kind = 7 then 1 - st.1 else st.1)
def setR (s : List Int) (kind a : Int) : List Int × Int := setFin kind a (s.foldl (setStep kind a) (0, [], !decide (kind = 7)))
theorem pos_split {s : List Int} (h : Asc s) (a : Int) : (∀ x ∈ s.take (posI s a), x < a) ∧ (∀ x ∈ s.drop (posI s a), a ≤ x) ∧ posI s a ≤ s.length := by
  induction s with
  | nil => simp [posI]
  | cons y s ih =>
    obtain ⟨h1, h2⟩ := List.pairwise_cons.1 h
    obtain ⟨i1, i2, i3⟩ := ih h2
    unfold posI at i1 i2 i3 ⊢
    rw [List.takeWhile_cons]
    by_cases hy : y < a
    · simp only [hy, decide_true, if_true, List.length_cons, List.take_succ_cons, List.drop_succ_cons]
      exact ⟨fun x hx => by rcases List.mem_cons.1 hx with rfl | hx; exact hy; exact i1 x hx, i2, by omega⟩
    · simp only [hy, decide_false, Bool.false_eq_true, if_false, List.length_nil, List.take_zero, List.drop_zero]
      refine ⟨by simp, fun x hx => ?_, by simp⟩
      rcases List.mem_cons.1 hx with rfl | hx
      · omega
      · have := h1 x hx; omega
/-- where it stands is told by what is about it -/
theorem pos_of {s : List Int} {a : Int} {i : Nat} (hi : i ≤ s.length) (h1 : ∀ j (hj : j < s.length), j < i → s[j] < a) (h2 : ∀ j (hj : j < s.length), i ≤ j → a ≤ s[j]) : posI s a = i := by
  induction s generalizing i with
  | nil => simp at hi; subst hi; rfl
  | cons y s ih =>
    unfold posI at ih ⊢
    rw [List.takeWhile_cons]
    cases i with
    | zero =>
      have := h2 0 (by simp) (by omega)
      simp only [List.getElem_cons_zero] at this
      have hy : ¬ y < a := by omega
      simp [hy]
    | succ i =>
      have hy := h1 0 (by simp) (by omega)
      simp only [List.getElem_cons_zero] at hy
      simp only [hy, decide_true, if_true, List.length_cons]
      rw [ih (i := i) (by simpa using hi) (fun j hj hji => by have := h1 (j + 1) (by simpa using hj) (by omega); simpa using this) (fun j hj hji => by have := h2 (j + 1) (by simpa using hj) (by omega); simpa using this)]
theorem fold_low (kind a : Int) : ∀ (l : List Int) (was : Int) (out : List Int) (put : Bool), (∀ x ∈ l, x < a) → l.foldl (setStep kind a) (was, out, put) = (was, out ++ l, put)
  | [], was, out, put, _ => by simp
  | x :: l, was, out, put, h => by
    have hx := h x (by simp)
    rw [List.foldl_cons]
    have e1 : x ≠ a := by omega
    have e2 : ¬ a ≤ x := by omega
    have e : setStep kind a (was, out, put) x = (was, out ++ [x], put) := by simp [setStep, e1, e2]
    rw [e, fold_low kind a l _ _ _ (fun y hy => h y (by simp [hy]))]
    simp
theorem fold_high (kind a : Int) : ∀ (l : List Int) (was : Int) (out : List Int), (∀ x ∈ l, a < x) → l.foldl (setStep kind a) (was, out, true) = (was, out ++ l, true)
  | [], was, out, _ => by simp
  | x :: l, was, out, h => by
    have hx := h x (by simp)
    rw [List.foldl_cons]
    have e1 : x ≠ a := by omega
    have e : setStep kind a (was, out, true) x = (was, out ++ [x], true) := by simp [setStep, e1]
    rw [e, fold_high kind a l _ _ (fun y hy => h y (by simp [hy]))]
    simp
/-- what the code does to a set -/
def setP (s : List Int) (kind a : Int) : List Int × Int :=
  if s.contains a = true then (if kind = 7 then (s, 0) else if kind = 8 then (s.take (posI s a) ++ s.drop (posI s a + 1), 1) else (s, 1))
  else (if kind = 7 then (s.take (posI s a) ++ a :: s.drop (posI s a), 1) else (s, 0))
theorem setP_eq {s : List Int} (h : Asc s) (kind a : Int) (hk : kind = 7 ∨ kind = 8 ∨ kind = 9) : setR s kind a = setP s kind a := by
  obtain ⟨p1, p2, p3⟩ := pos_split h a
  unfold setP
  generalize posI s a = i at *
  have hs : s = s.take i ++ s.drop i := (List.take_append_drop i s).symm
  have hap : (s.drop i).Pairwise (· < ·) := h.sublist (List.drop_sublist i s)
  unfold setR
  conv => lhs; rw [hs, List.foldl_append, fold_low kind a _ _ _ _ p1]
  cases hd : s.drop i with
  | nil =>
    have hn : s.contains a = false := by
      rw [Bool.eq_false_iff]; intro hc
      have hm : a ∈ s := by simpa using hc
      rw [hs, hd, List.append_nil] at hm
      have := p1 a hm; omega
    rw [if_neg (by rw [hn]; simp)]
    have ht : s.take i = s := by rw [hd, List.append_nil] at hs; exact hs.symm
    rcases hk with rfl | rfl | rfl <;> simp [setFin, ht]
  | cons y r =>
    rw [hd] at hap p2 hs
    obtain ⟨q1, q2⟩ := List.pairwise_cons.1 hap
    have hy := p2 y (by simp)
    have hr : ∀ x ∈ r, a < x := fun x hx => by have := q1 x hx; omega
    have hdr : s.drop (i + 1) = r := by rw [← List.drop_drop, hd]; rfl
    by_cases e : y = a
    · subst e
      have hc : s.contains y = true := by rw [hs]; simp
      rw [if_pos hc, hdr]
      have e1 : ∀ (was : Int) (out : List Int) (put : Bool), setStep 7 y (was, out, false) y = (1, out ++ [y], true) := by intro was out put; simp [setStep]
      rcases hk with rfl | rfl | rfl
      · have : setStep 7 y (0, [] ++ s.take i, !decide ((7 : Int) = 7)) y = (1, s.take i ++ [y], true) := by simp [setStep]
        rw [List.foldl_cons, this, fold_high 7 y r _ _ hr]
        simp only [setFin]
        rw [if_neg (by simp), if_pos trivial, if_pos trivial]
        simp only [List.append_assoc, List.singleton_append]
        rw [← hs]; rfl
      · have : setStep 8 y (0, [] ++ s.take i, !decide ((8 : Int) = 7)) y = (1, s.take i, true) := by simp [setStep]
        rw [List.foldl_cons, this, fold_high 8 y r _ _ hr]
        simp [setFin]
      · have : setStep 9 y (0, [] ++ s.take i, !decide ((9 : Int) = 7)) y = (1, s.take i ++ [y], true) := by simp [setStep]
        rw [List.foldl_cons, this, fold_high 9 y r _ _ hr]
        simp only [setFin]
        rw [if_neg (by simp), if_neg (by decide), if_neg (by decide), if_neg (by decide)]
        simp only [List.append_assoc, List.singleton_append]
        rw [← hs]
    · have hya : a < y := by omega
      have hn : s.contains a = false := by
        rw [Bool.eq_false_iff]; intro hc
        have hm : a ∈ s := by simpa using hc
        rw [hs] at hm
        rcases List.mem_append.1 hm with hm | hm
        · have := p1 a hm; omega
        · rcases List.mem_cons.1 hm with rfl | hm
          · omega
          · have := hr a hm; omega
      rw [if_neg (by rw [hn]; simp)]
      have hay : a ≤ y := by omega
      rcases hk with rfl | rfl | rfl
      · have : setStep 7 a (0, [] ++ s.take i, !decide ((7 : Int) = 7)) y = (0, s.take i ++ [a] ++ [y], true) := by simp [setStep, e, hay]
        rw [List.foldl_cons, this, fold_high 7 a r _ _ hr]
        simp [setFin]
      · have : setStep 8 a (0, [] ++ s.take i, !decide ((8 : Int) = 7)) y = (0, s.take i ++ [y], true) := by simp [setStep, e]
        rw [List.foldl_cons, this, fold_high 8 a r _ _ hr]
        simp only [setFin]
        rw [if_neg (by simp), if_neg (by decide), if_neg (by decide)]
        simp only [List.append_assoc, List.singleton_append]
        rw [← hs]
      · have : setStep 9 a (0, [] ++ s.take i, !decide ((9 : Int) = 7)) y = (0, s.take i ++ [y], true) := by simp [setStep, e]
        rw [List.foldl_cons, this, fold_high 9 a r _ _ hr]
        simp only [setFin]
        rw [if_neg (by simp), if_neg (by decide), if_neg (by decide)]
        simp only [List.append_assoc, List.singleton_append]
        rw [← hs]
/-! States -/
def okI (x : Int) : Bool := decide (1 ≤ x) && decide (x ≤ 1000)
def ascB (s : List Int) : Bool := (List.range (s.length - 1)).all fun j => decide (s.getD j 0 < s.getD (j + 1) 0)
theorem ascB_iff (s : List Int) : ascB s = true ↔ ∀ j, j + 1 < s.length → s.getD j 0 < s.getD (j + 1) 0 := by
  unfold ascB
  rw [List.all_eq_true]
  constructor
  · intro h j hj
    simpa using h j (by rw [List.mem_range]; omega)
  · intro h j hj
    rw [List.mem_range] at hj
    simpa using h j (by omega)
theorem asc_of {s : List Int} (h : ascB s = true) : Asc s := by
  rw [ascB_iff] at h
  unfold Asc
  induction s with
  | nil => exact .nil
  | cons x s ih =>
    have hs := ih (fun j hj => by have := h (j + 1) (by simpa using hj); simpa using this)
    refine List.pairwise_cons.2 ⟨fun y hy => ?_, hs⟩
    cases s with
    | nil => simp at hy
    | cons z s =>
      have h0 := h 0 (by simp)
      simp only [List.getD_cons_zero, List.getD_cons_succ] at h0
      rcases List.mem_cons.1 hy with rfl | hy
      · exact h0
      · have := (List.pairwise_cons.1 hs).1 y hy
        omega
def oneB (s : List Int) : Bool := decide (s.length = 1) && (decide (0 ≤ s.getD 0 0) && decide (s.getD 0 0 ≤ 1000))
def validS (typ : Int) (s : List Int) : Bool := if typ = 1 ∨ typ = 5 then oneB s else if typ = 4 then ascB s && s.all okI else s.all okI
def typB (typ : Int) : Bool := decide (1 ≤ typ) && decide (typ ≤ 5)
def chkS (typ : Int) (s : List Int) : Int := if typB typ = true then (if 50 < s.length then 2 else if validS typ s = true then 0 else 3) else 1
/-! Steps -/
/-- what a step answers: the state behind, the answer, what is wrong -/
abbrev Res := List Int × Int × Int
def stepP (typ : Int) (s : List Int) (kind a : Int) : Res :=
  if typ = 1 then (if kind = 1 then ([a], 0, 0) else (s, s.getD 0 0, 0))
  else if typ = 2 then (if kind = 3 then (if s.length = 50 then ([], 0, 2) else (s ++ [a], 0, 0)) else if s.length = 0 then (s, -1, 0) else (s.drop 1, s.getD 0 0, 0))
  else if typ = 3 then (if kind = 5 then (if s.length = 50 then ([], 0, 2) else (s ++ [a], 0, 0)) else if s.length = 0 then (s, -1, 0) else (s.take (s.length - 1), s.getD (s.length - 1) 0, 0))
  else if typ = 4 then (if kind = 7 ∧ s.contains a = false ∧ s.length = 50 then ([], 0, 2) else ((setP s kind a).1, (setP s kind a).2, 0))
  else (if s.getD 0 0 = 1000 then ([], 0, 2) else ([s.getD 0 0 + 1], s.getD 0 0, 0))
def stepR (s : List Int) (kind a : Int) : Res :=
  if (kind = 3 ∨ kind = 5 ∨ kind = 7 ∧ s.contains a = false) ∧ s.length = 50 ∨ kind = 10 ∧ s.getD 0 0 = 1000 then ([], 0, 2)
  else if kind = 1 then ([a], 0, 0)
  else if kind = 2 then (s, s.getD 0 0, 0)
  else if kind = 3 ∨ kind = 5 then (s ++ [a], 0, 0)
  else if kind = 4 ∨ kind = 6 then (if s.length = 0 then (s, -1, 0) else if kind = 4 then (s.drop 1, s.getD 0 0, 0) else (s.take (s.length - 1), s.getD (s.length - 1) 0, 0))
  else if kind = 10 then ([s.getD 0 0 + 1], s.getD 0 0, 0)
  else ((setR s kind a).1, (setR s kind a).2, 0)
/-- a type and a kind that go together -/
def fitB (typ kind : Int) : Prop := typ = 1 ∧ (kind = 1 ∨ kind = 2) ∨ typ = 2 ∧ (kind = 3 ∨ kind = 4) ∨ typ = 3 ∧ (kind = 5 ∨ kind = 6) ∨ typ = 4 ∧ (kind = 7 ∨ kind = 8 ∨ kind = 9) ∨ typ = 5 ∧ kind = 10
theorem step_eq {typ : Int} {s : List Int} {kind a : Int} (hv : validS typ s = true) (hf : fitB typ kind) : stepR s kind a = stepP typ s kind a := by
  rcases hf with ⟨rfl, rfl | rfl⟩ | ⟨rfl, rfl | rfl⟩ | ⟨rfl, rfl | rfl⟩ | ⟨rfl, hk⟩ | ⟨rfl, rfl⟩
  · simp [stepR, stepP]
  · simp [stepR, stepP]
  · simp [stepR, stepP]
  · simp [stepR, stepP]
  · simp [stepR, stepP]
  · simp [stepR, stepP]
  · have hs : Asc s := by
      have : ascB s = true := by
        simp only [validS] at hv
        rw [if_neg (by decide), if_pos trivial, Bool.and_eq_true] at hv
        exact hv.1
      exact asc_of this
    have he := setP_eq hs kind a hk
    rcases hk with rfl | rfl | rfl
    · simp [stepR, stepP, he]
    · simp [stepR, stepP, he]
    · simp [stepR, stepP, he]
  · simp [stepR, stepP]
theorem all_okI_of {s t : List Int} (h : s.all okI = true) (hs : ∀ x ∈ t, x ∈ s) : t.all okI = true := by
  rw [List.all_eq_true] at h ⊢
  exact fun x hx => h x (hs x hx)
theorem ascB_of {s : List Int} (h : Asc s) : ascB s = true := by
  rw [ascB_iff]
  intro j hj
  have h1 : s.getD j 0 = s[j] := by simp [List.getD_eq_getElem?_getD, show j < s.length by omega]
  have h2 : s.getD (j + 1) 0 = s[j + 1] := by simp [List.getD_eq_getElem?_getD, hj]
  rw [h1, h2]
  exact (List.pairwise_iff_getElem.1 h) j (j + 1) (by omega) hj (by omega)
theorem setP_valid {s : List Int} {kind a : Int} (hs : Asc s) (ho : s.all okI = true) (ha : okI a = true) : Asc (setP s kind a).1 ∧ (setP s kind a).1.all okI = true := by
  obtain ⟨p1, p2, p3⟩ := pos_split hs a
  unfold setP
  generalize posI s a = i at *
  have hsp : s = s.take i ++ s.drop i := (List.take_append_drop i s).symm
  split
  · split
    · exact ⟨hs, ho⟩
    · split
      · refine ⟨?_, all_okI_of ho fun x hx => ?_⟩
        · have : (s.take i ++ s.drop (i + 1)).Sublist s := by
            conv => rhs; rw [hsp]
            refine List.Sublist.append (List.Sublist.refl _) ?_
            rw [← List.drop_drop]
            exact List.drop_sublist 1 _
          exact hs.sublist this
        · rcases List.mem_append.1 hx with h | h
          · exact List.mem_of_mem_take h
          · exact List.mem_of_mem_drop h
      · exact ⟨hs, ho⟩
  · rename_i hc
    split
    · refine ⟨?_, ?_⟩
      · unfold Asc at hs ⊢
        rw [hsp, List.pairwise_append] at hs
        obtain ⟨q1, q2, q3⟩ := hs
        rw [List.pairwise_append, List.pairwise_cons]
        refine ⟨q1, ⟨fun y hy => ?_, q2⟩, fun x hx y hy => ?_⟩
        · have h1 := p2 y hy
          have h2 : a ≠ y := fun e => by
            subst e
            exact hc (by simpa using List.mem_of_mem_drop hy)
          omega
        · rcases List.mem_cons.1 hy with rfl | hy
          · exact p1 x hx
          · exact q3 x hx y hy
      · rw [List.all_append, List.all_cons, ha, Bool.true_and, Bool.and_eq_true]
        exact ⟨all_okI_of ho fun x hx => List.mem_of_mem_take hx, all_okI_of ho fun x hx => List.mem_of_mem_drop hx⟩
    · exact ⟨hs, ho⟩
theorem setP_len {s : List Int} {kind a : Int} (h50 : s.length ≤ 50) (hn : ¬ (kind = 7 ∧ s.contains a = false ∧ s.length = 50)) : (setP s kind a).1.length ≤ 50 := by
  unfold setP
  split
  · split
    · exact h50
    · split
      · simp only [List.length_append, List.length_take, List.length_drop]; omega
      · exact h50
  · rename_i hc
    split
    · rename_i hk
      have hc' : s.contains a = false := by simpa using hc
      have : s.length ≠ 50 := fun e => hn ⟨hk, hc', e⟩
      simp only [List.length_append, List.length_take, List.length_cons, List.length_drop]; omega
    · exact h50
theorem chkS_ok {typ : Int} {s : List Int} (h : chkS typ s = 0) : typB typ = true ∧ s.length ≤ 50 ∧ validS typ s = true := by
  unfold chkS at h
  split at h
  · rename_i h1
    split at h
    · cases h
    · split at h
      · exact ⟨h1, by omega, by assumption⟩
      · cases h
  · cases h
theorem chkS_mk {typ : Int} {s : List Int} (h1 : typB typ = true) (h2 : s.length ≤ 50) (h3 : validS typ s = true) : chkS typ s = 0 := by
  unfold chkS
  rw [if_pos h1, if_neg (by omega), if_pos h3]
theorem okI_of {kind a : Int} (h : argB kind a = true) (hk : ¬ (kind = 2 ∨ kind = 4 ∨ kind = 6 ∨ kind = 10)) : okI a = true := by
  unfold argB at h
  rw [if_neg hk] at h
  simp only [decide_eq_true_eq] at h
  simp [okI, h.1, h.2]
theorem step_valid {typ : Int} {s : List Int} {kind a : Int} (h : chkS typ s = 0) (hf : fitB typ kind) (ha : argB kind a = true) (he : (stepP typ s kind a).2.2 = 0) : chkS typ (stepP typ s kind a).1 = 0 := by
  obtain ⟨h1, h2, h3⟩ := chkS_ok h
  rcases hf with ⟨rfl, rfl | rfl⟩ | ⟨rfl, rfl | rfl⟩ | ⟨rfl, rfl | rfl⟩ | ⟨rfl, hk⟩ | ⟨rfl, rfl⟩
  · have := okI_of ha (by decide)
    simp only [okI, Bool.and_eq_true, decide_eq_true_eq] at this
    refine chkS_mk h1 (by simp [stepP]) ?_
    simp [stepP, validS, oneB]; omega
  · simpa [stepP] using h
  · have := okI_of ha (by decide)
    simp only [stepP] at he ⊢
    by_cases h50 : s.length = 50
    · simp [h50] at he
    · simp only [h50]
      refine chkS_mk h1 (by simp; omega) ?_
      simp only [validS] at h3 ⊢
      simpa [this] using h3
  · simp only [stepP] at he ⊢
    by_cases h0 : s.length = 0
    · simpa [h0] using h
    · refine chkS_mk h1 (by simp [h0]; omega) ?_
      simp only [validS, h0] at h3 ⊢
      have h3' : s.all okI = true := by simpa using h3
      simpa using all_okI_of h3' (t := s.drop 1) fun x hx => List.mem_of_mem_drop hx
  · have := okI_of ha (by decide)
    simp only [stepP] at he ⊢
    by_cases h50 : s.length = 50
    · simp [h50] at he
    · simp only [h50]
      refine chkS_mk h1 (by simp; omega) ?_
      simp only [validS] at h3 ⊢
      simpa [this] using h3
  · simp only [stepP] at he ⊢
    by_cases h0 : s.length = 0
    · simpa [h0] using h
    · refine chkS_mk h1 (by simp [h0]; omega) ?_
      simp only [validS, h0] at h3 ⊢
      have h3' : s.all okI = true := by simpa using h3
      simpa using all_okI_of h3' (t := s.take (s.length - 1)) fun x hx => List.mem_of_mem_take hx
  · have ho := okI_of ha (by omega)
    have h3' : ascB s = true ∧ s.all okI = true := by simpa [validS] using h3
    obtain ⟨v1, v2⟩ := setP_valid (kind := kind) (asc_of h3'.1) h3'.2 ho
    have e : (4 : Int) = 4 := rfl
    by_cases hfull : kind = 7 ∧ s.contains a = false ∧ s.length = 50
    · unfold stepP at he
      rw [if_neg (by decide), if_neg (by decide), if_neg (by decide), if_pos rfl, if_pos hfull] at he; cases he
    · have hs : stepP 4 s kind a = ((setP s kind a).1, (setP s kind a).2, 0) := by
        unfold stepP
        rw [if_neg (by decide), if_neg (by decide), if_neg (by decide), if_pos rfl, if_neg hfull]
      rw [hs]
      refine chkS_mk h1 (setP_len h2 hfull) ?_
      simp only [validS]
      rw [if_neg (by decide), if_pos trivial, Bool.and_eq_true]
      exact ⟨ascB_of v1, v2⟩
  · simp only [stepP] at he ⊢
    have h3' : oneB s = true := by simpa [validS] using h3
    simp only [oneB, Bool.and_eq_true, decide_eq_true_eq] at h3'
    by_cases hm : s.getD 0 0 = 1000
    · rw [if_neg (by decide), if_neg (by decide), if_neg (by decide), if_neg (by decide), if_pos hm] at he; cases he
    · rw [if_neg (by decide), if_neg (by decide), if_neg (by decide), if_neg (by decide), if_neg hm]
      refine chkS_mk h1 (by simp) ?_
      simp only [validS, oneB, List.getD_cons_zero, List.length_singleton]
      rw [if_pos (by decide), Bool.and_eq_true, Bool.and_eq_true, decide_eq_true_eq, decide_eq_true_eq, decide_eq_true_eq]
      exact ⟨trivial, by omega, by omega⟩
theorem step_bad {typ : Int} {s : List Int} {kind a : Int} (h : (stepP typ s kind a).2.2 ≠ 0) : stepP typ s kind a = ([], 0, 2) := by
  unfold stepP at h ⊢
  repeat' split at h
  all_goals first | (exact absurd rfl h) | skip
  all_goals simp_all
end Go.Proofs.Ytaonijdhmgcbjaa

namespace Go.Proofs.Ytaonijdhmgcbjaa
open Go.RowKit

/-- a type that is no interface -/
class PlainT (P : Program) (t : Nat) : Prop where
  make : ∀ (v : Value) (w : World), (Instr.makeInterface t v).run P w = .ok (.iface t v) w
/-- an interface type -/
class IfaceT (P : Program) (t : Nat) : Prop where
  und : ∃ ms, P.underlying t = some (.interface ms)
theorem plainT_of {P : Program} {t : Nat} {fs : Array Field} (h : P.underlying t = some (.struct fs)) : PlainT P t := ⟨fun v w => by simp [Instr.makeInterface, run_underlying h]⟩
/-- a method of a type, called by value -/
class MethodOf (P : Program) (t : Nat) (name : String) (v : Value) (f : outParam Nat) (r : outParam Value) : Prop where
  run : ∀ w, (method (P.types.size + Made.depth) t v name).run P w = .ok (f, r) w
section
variable {P : Program} {C : Ctx} {Q : Exit → Act → World → Prop} {E : Slots} {S S1 R S2 : List Ent}
variable {d ty ty2 ty3 t : Nat} {ps : String} {af : Array Edge} {g0 : Option (Nat × Bool)} {f : Nat} {x y : Operand} {v r : Value}
theorem QS_makeInterface [hs : PlainT P t] (hx : evo E x = some v) : QS P C E S (.makeInterface t x) ty (.iface t v) :=
  QS.of (fun a w ha _ => by
    have := hs.make v w
    simp [execOp, ha.evo hx, this])
theorem run_equal_ifaceNil [h : IfaceT P t] (u : Nat) (v : Value) (w : World) : (Op.equal t (.iface u v) .nilIface).run P w = .ok false w := by
  obtain ⟨ms, h⟩ := h.und
  unfold Op.equal Op.maxDepth Op.equalIn
  simp [run_underlying h]
theorem run_equal_nilNil [h : IfaceT P t] (w : World) : (Op.equal t .nilIface .nilIface).run P w = .ok true w := by
  obtain ⟨ms, h⟩ := h.und
  unfold Op.equal Op.maxDepth Op.equalIn
  simp [run_underlying h]
theorem QS_ifaceSome [IfaceT P t] {u : Nat} (hx : evo E x = some (.iface u v)) (hy : evo E y = some .nilIface) : QS P C E S (.binOp .eql t x y ty3) ty (.bool false) :=
  QS.of (fun a w ha _ => by
    unfold execOp
    simp only [ha.evo hx, ha.evo hy]
    have hg : (eqGuard .eql t x y (.iface u v) .nilIface).run P w = .ok () w := rfl
    have hb : (binOp .eql t (.iface u v) .nilIface).run P w = .ok (.bool false) w := by
      unfold binOp; simp [run_equal_ifaceNil]
    simp only [Sem.run_bind, hg, Result.andThen_ok, hb]; rfl)
theorem QS_ifaceNil [IfaceT P t] {z : Value} (hx : evo E x = some .nilIface) (hz : z = .nilIface) : QS P C E S (.binOp .eql t x (.const z) ty3) ty (.bool true) :=
  QS.of (fun a w ha _ => by
    subst hz
    unfold execOp
    simp only [ha.evo hx]
    have hg : (eqGuard .eql t x (.const .nilIface) .nilIface .nilIface).run P w = .ok () w := by
      unfold eqGuard
      cases x <;> rfl
    have hb : (binOp .eql t .nilIface .nilIface).run P w = .ok (.bool true) w := by
      unfold binOp; simp [run_equal_nilNil]
    simp only [Act.eval, Sem.run_bind, hg, Result.andThen_ok, hb]; rfl)
/-- a method taken as a value: the look at its receiver -/
theorem QS_nilCheckM {u : Nat} {name : String} {cs : Array Value} (hx : evo E x = some (.func (.method name) #[.iface u v] cs)) (hm : ∀ w, (nilAhead (P.types.size + Made.depth) u v name).run P w = .ok (some false) w) : QS P C E S (.nilCheck x) ty (.func (.method name) #[.iface u v] cs) :=
  QS.of (fun a w ha _ => by
    have hp : (program).run P w = .ok P w := rfl
    simp [execOp, ha.evo hx, hp, hm w])
theorem run_invoke [hf : IsFn P f] {u : Nat} {name : String} {xs : List Operand} {vs : List Value} {ats : Array TypeId} (hv : evo E x = some (.iface u v)) (hm : MethodOf P u name v f r) (hx : evs E xs = some vs) {a : Act} {w : World} (ha : Env C.n a E) :
    (execOp a.eval ⟨some d, .call ⟨.invoke x name, xs.toArray, ats⟩, ty, ps, af, g0⟩).run P w = .ok (.enter f (r :: vs).toArray) w := by
  have h1 := ha.evo hv
  have h2 := evs_toArray ha hx
  have hp : (program).run P w = .ok P w := rfl
  have h3 := hf.run (r :: vs).toArray w
  have e1 : (#[Value.iface u v] ++ vs.toArray).extract 1 (#[Value.iface u v] ++ vs.toArray).size = vs.toArray := by simp
  have e2 : (#[Value.iface u v] ++ vs.toArray)[0]? = some (.iface u v) := by simp
  have e3 : #[r] ++ vs.toArray = (r :: vs).toArray := by simp
  simp only [execOp, resolve, h1, h2, Sem.run_bind, Sem.run_pure, Result.andThen_ok, invoke, e2, e1, callMethod, hp, hm.run w, e3, h3]
/-- a call of a method that leaves all alone -/
theorem ES_invokeV [hf : IsFn P f] {u : Nat} {name : String} {xs : List Operand} {vs : List Value} {ats : Array TypeId} {z : Value} (hv : evo E x = some (.iface u v)) (hm : MethodOf P u name v f r) (hx : evs E xs = some vs)
    (hc : ∀ w, Mem C w S → Calls P f (r :: vs).toArray w fun e w' => e = .returned z ∧ Below w.heap.size w w') (hd : Nat.ble (d + 1) C.n = true) :
    ES P C E S ⟨some d, .call ⟨.invoke x name, xs.toArray, ats⟩, ty, ps, af, g0⟩ (fun E' S' => E' = (d, z) :: E ∧ S' = S) := by
  refine (ES_enter (fun u T => u = z ∧ T = S) (fun a w ha => run_invoke hv hm hx ha) (fun w hw => (hc w hw).mono fun e w' ⟨he, hb⟩ => ⟨z, _, he, hw.below hb, rfl, rfl⟩) hd).weak (by rintro _ _ ⟨_, ⟨rfl, rfl⟩, rfl⟩; exact ⟨rfl, rfl⟩)
/-- a call of a method that turns what it is handed -/
theorem ES_invokeX [hf : IsFn P f] {X : Type} {u : Nat} {name : String} {xs : List Operand} {vs : List Value} {ats : Array TypeId} (z : X → Value) (S1' : X → List Ent) {S2 : X → List Ent} (hv : evo E x = some (.iface u v)) (hm : MethodOf P u name v f r) (hx : evs E xs = some vs)
    (hS : Pull S S1 R) (hA : ∀ x, AppL (S1' x) R (S2 x))
    (hc : ∀ w, Mem C w (S1 ++ R) → Calls P f (r :: vs).toArray w fun e w' => ∃ x, e = .returned (z x) ∧ Mem ⟨0, blks S1, w⟩ w' (S1' x)) (hd : Nat.ble (d + 1) C.n = true) :
    ES P C E S ⟨some d, .call ⟨.invoke x name, xs.toArray, ats⟩, ty, ps, af, g0⟩ (fun E' S' => ∃ x, E' = (d, z x) :: E ∧ S' = S2 x) :=
  (ES_enter (fun u T => ∃ x, u = z x ∧ T = S2 x) (fun a w ha => run_invoke hv hm hx ha) (fun w hw => (hc w (hw.pull hS)).mono fun e w' ⟨x, he, hb⟩ => ⟨z x, _, he, (hw.pull hS).frame hb, x, rfl, (hA x).eq⟩) hd).weak
    (by rintro _ _ ⟨_, ⟨x, rfl, rfl⟩, rfl⟩; exact ⟨x, rfl, rfl⟩)
/-- a call that turns what it is handed, to something of some shape -/
theorem ES_callX [hf : IsFn P f] {X : Type} {xs : List Operand} {vs : List Value} {ats : Array TypeId} (z : X → Value) (S1' : X → List Ent) {S2 : X → List Ent} (hx : evs E xs = some vs)
    (hS : Pull S S1 R) (hA : ∀ x, AppL (S1' x) R (S2 x))
    (hc : ∀ w, Mem C w (S1 ++ R) → Calls P f vs.toArray w fun e w' => ∃ x, e = .returned (z x) ∧ Mem ⟨0, blks S1, w⟩ w' (S1' x)) (hd : Nat.ble (d + 1) C.n = true) :
    ES P C E S ⟨some d, .call ⟨.value (.func f), xs.toArray, ats⟩, ty, ps, af, g0⟩ (fun E' S' => ∃ x, E' = (d, z x) :: E ∧ S' = S2 x) :=
  (ES_call (fun u T => ∃ x, u = z x ∧ T = S2 x) hx (fun w hw => (hc w (hw.pull hS)).mono fun e w' ⟨x, he, hb⟩ => ⟨z x, _, he, (hw.pull hS).frame hb, x, rfl, (hA x).eq⟩) hd).weak
    (by rintro _ _ ⟨_, ⟨x, rfl, rfl⟩, rfl⟩; exact ⟨x, rfl, rfl⟩)
end
/-! Structs without a cell -/
/-- a field without a cell, of a struct without one -/
class FieldZ (P : Program) (s f : Nat) : Prop where
  run : ∃ (fs : Array Field) (fd : Field), P.underlying s = some (.struct fs) ∧ fs[f]? = some fd ∧ fd.offset = 0 ∧ fd.byteOffset = 0 ∧ ∀ w, (sizeOf fd.type).run P w = .ok 0 w
class CellsZ (P : Program) (t : Nat) : Prop where
  z : P.cellsOf t = 0
theorem run_byteOf0 {P : Program} {g t o : Nat} [hz : CellsZ P t] {w : World} {cs : Array Value} (hb : Blk w g t cs) : (byteOf ⟨g, o, none⟩).run P w = .ok 0 w := by
  unfold Blk at hb
  have h1 : w.shape? g = some (t, cs.size) := by simp [World.shape?, hb]
  have hp : (program).run P w = .ok P w := rfl
  have hv : (noView ⟨g, o, none⟩).run P w = .ok () w := by simp [noView, viewAt, h1]
  simp [byteOf, hp, hv, h1, hz.z]
section
variable {P : Program} {C : Ctx} {E : Slots} {S : List Ent} {ty g t s f : Nat} {x : Operand} {cs : Array Value}
theorem QS_fieldZ [hs : FieldZ P s f] [hz : CellsZ P s] (hx : evo E x = some (.pointer (some ⟨g, 0, none⟩))) (hm : entBlk g s cs ∈ S) : QS P C E S (.fieldAddr s x f) ty (.pointer (some ⟨g, 0, none⟩)) :=
  QS.of (fun a w ha hw => by
    obtain ⟨fs, fd, h1, h2, h3, h4, h5⟩ := hs.run
    have hb : Blk w g s cs := (hw.holds _ hm).1
    have := run_byteOf0 (P := P) (o := 0) hb
    simp [execOp, ha.evo hx, Instr.fieldAt, run_underlying h1, h2, Instr.sureAddr, fieldPlace, h5 w, partAt, this, h3, h4])
theorem Lds.zero [hs : AggOf P s 0] (ad : Addr) : Lds P C S s ad (.agg #[]) := fun w hw => by
  have : (loadCells ad 0).run P w = .ok #[] w := rfl
  simp [loadVar, hs.agg w, hs.size w, this]
end
end Go.Proofs.Ytaonijdhmgcbjaa

namespace Go.Proofs.Ytaonijdhmgcbjaa
open Go.RowKit
section
variable {P : Program} {C : Ctx} {E : Slots} {S : List Ent} {t e m g p n c ty : Nat} {x y : Operand} {v : Value}
theorem QS_sliceHigh [hs : SliceOf P t e m] {k : IntKind} {j : Nat} (hx : evo E x = some (.slice (some ⟨g, p, none⟩) n c)) (hy : evo E y = some (.int k (j : Nat))) (hj : j ≤ c) :
    QS P C E S (.slice t x none (some y) none) ty (.slice (some ⟨g, p, none⟩) j c) :=
  QS.of (fun a w ha _ => by
    have he : P.elem t = e := by simp [Program.elem, hs.und]
    have hu : P.underlying t = some (.slice (P.elem t)) := by rw [he]; exact hs.und
    have hr := run_slice_h (P := P) (w := w) t (some ⟨g, p, none⟩) n c hu k (j : Int) (by omega) (by omega)
    rw [he, hs.size w] at hr
    simp only [Result.andThen_ok, Int.toNat_natCast] at hr
    have hv : sliced (some ⟨g, p, none⟩) 0 j c m = .slice (some ⟨g, p, none⟩) j c := by
      unfold sliced
      split <;> simp [add_mk]
    rw [hv] at hr
    simp [execOp, ha.evo hx, ha.evo hy, run_sliceAt_slice (P := P) (w := w) t _ _ _ _ hu, hr])
end
end Go.Proofs.Ytaonijdhmgcbjaa
