/- Lemmas for the walks (ZnA, Bdq, Znq). No condition. -/
import Derived.Test.YtaonijdhmgcbjaaG12
import Derived.Test.YtaonijdhmgcbjaaG10
import Derived.Test.YtaonijdhmgcbjaaG09
import Derived.Test.YtaonijdhmgcbjaaG07
import Derived.Test.YtaonijdhmgcbjaaG05
import Derived.Test.YtaonijdhmgcbjaaRows
import Derived.Test.YtaonijdhmgcbjaaG01
import Derived.ChangeKeysEq
set_option linter.unusedSimpArgs false
set_option linter.unusedVariables false
set_option linter.unusedSectionVars false
set_option linter.unnecessarySimpa false
namespace Go.Proofs.Ytaonijdhmgcbjaa
open Go.RowKit
theorem QSarm_ZnA {p : Prop} (h : p := by (first | ((with_reducible apply QS_sliceLowZ (l := i + 1)); exact rfl; exact rfl; omega; omega) | ((with_reducible apply QS_index (o' := k * 4)); exact rfl; exact rfl; omega; omega) | exact QS.auto)) : p := h
theorem DRarm0_ZnA {p R : Prop} (r : R) (h : Rest R → p := by intro r; first | ((with_reducible apply T_draw (id := 12) 1000 (OT.seq [(0, 0), (1, 1), (0, 2), (0, 3), (0, 4), (1, 5), (0, 6), (0, 7), (0, 8), (0, 9), (0, 10), (0, 11), (0, 12), (0, 13), (0, 14), (0, 15), (0, 17), (1, 16), (1, 18), (0, 19), (0, 20)] .nil)); kernel_rfl; exact rfl; kernel_rfl; (repeat (first | with_reducible exact Blind.body | with_reducible apply Blind.seq | with_reducible apply Blind.block | with_reducible assumption)); exact r.out)) : p := h ⟨r⟩
set_option linter.unusedSectionVars false

theorem endD_zon {cs : List Cl} {v : Nat} (h : isV cs v = true) : endD cs (v : Int) = endZ cs (v : Int) := by unfold endD endZ; rw [okD_zon h]
theorem okD_is (cs : List Cl) (v : Nat) : okD cs (v : Int) = (isV cs v && (endZ cs (v : Nat)).some_) := by
  have h1 : (decide ((v : Int) = 0) || decide (0 ≤ wrBy cs (v : Int))) = isV cs v := by
    unfold isV
    congr 1
    exact decide_eq_decide.2 (by omega)
  unfold okD
  rw [h1]
  by_cases h : isV cs v = true
  · rw [endD_zon h]
  · rw [Bool.eq_false_iff.2 h, Bool.false_and, Bool.false_and]
theorem zonD_is {cs : List Cl} {v : Nat} (h : (isV cs v && (endZ cs (v : Nat)).some_) = true) : zonD cs (v : Int) = zonE cs (v : Int) := by
  rw [Bool.and_eq_true] at h
  unfold zonD zonE
  rw [endD_zon h.1]
theorem zonL_fwd {cs : List Cl} {n : Nat} : ∀ z ∈ zonL cs n, z.fwd = decide (z.first < z.last) := by
  intro z hz
  unfold zonL at hz
  obtain ⟨v, _, h⟩ := List.mem_filterMap.1 hz
  unfold zonO at h
  split at h
  · cases h; rfl
  · cases h
theorem meet_max {a b : Zon} (ha : a.first < a.last) (hb : b.first < b.last) : decide (max a.first b.first < min a.last b.last) = meetB a b := by
  unfold meetB
  rw [← Bool.decide_and]
  exact decide_eq_decide.2 (by omega)
section
variable (A : Option Addr) (c : Nat) (cs : List Cl) (w : World) (hl : cs.length ≤ 200) (hA : RdCl w A cs) (hok : RgOk cs)
include hl hA hok
set_option maxRecDepth 100000 in
set_option maxHeartbeats 8000000 in
theorem badZones_any : Calls Try.prog 15 #[.slice A cs.length c] w fun e w' => e = .returned (.agg (Bd.enc (zonesV cs)).toArray) ∧ Below w.heap.size w w' := by
  have hwz := wrBy_zero hok.toRgAll
  have hwo := fun v w h => writeOf_any A c cs w hl h v
  have hzo := fun v w h => zoneOf_any A c cs w hl h v hwz
  have hR1 : ∀ k, k < cs.length → (∀ i, i < k → strzB cs i = false) → strzB cs k = true → zonesV cs = ⟨1, k, 0⟩ := fun k hk h1 h => by
    have : readsV cs = ⟨1, k, 0⟩ := by unfold readsV; rw [firstN_at hk h1 h]
    unfold zonesV
    rw [this, if_pos (by simp)]
  have hR2 : (∀ i, i < cs.length → strzB cs i = false) → ∀ k, k < cs.length → (∀ i, i < k → earzB cs i = false) → earzB cs k = true → zonesV cs = ⟨3, k, wrBy cs (clK cs k).res⟩ := fun h0 k hk h1 h => by
    have : readsV cs = ⟨3, k, wrBy cs (clK cs k).res⟩ := by unfold readsV earlyV; rw [firstN_none h0]; dsimp only; rw [firstN_at hk h1 h]
    unfold zonesV
    rw [this, if_pos (by simp)]
  have hR3 : (∀ i, i < cs.length → strzB cs i = false) → (∀ i, i < cs.length → earzB cs i = false) → zonesV cs = pairsV (zonL cs 1001) := fun h0 h1 => by
    have : readsV cs = ⟨0, 0, 0⟩ := by unfold readsV earlyV; rw [firstN_none h0]; dsimp only; rw [firstN_none h1]
    unfold zonesV
    rw [this, if_neg (by simp)]
  generalize zonesV cs = R at *
  refine calls_T (S := []) [] Try.func15 rfl Try.ntmps15 (by simp) (Mem.nil _) ?_
  repeat' (first | ((first | with_reducible (first | apply TL_q | apply TD_q0 | apply TD_q1 | apply TD_q2 | apply TD_q3) | ((with_reducible (first | apply TD_q0y | apply TD_q1y)); exact rfl; exact rfl; (with_reducible exact rfl))); exact QSarm_ZnA; exact rfl) | (refine GO ?_) | (refine GOE ?_; (first | (rintro _ _ ⟨rfl, rfl⟩) | (rintro _ _ ⟨g, rfl, rfl⟩) | (rintro _ _ ⟨A', c', rfl, rfl⟩))) | ((refine GO2 ?_ ?_) <;> intro h <;> (try (repeat (first | with_reducible (replace h := of_decide_eq_true h) | with_reducible (replace h := of_decide_eq_false h) | with_reducible (replace h := bnt h) | with_reducible (replace h := bnf h) | with_reducible (replace h := Int.not_lt.mp h) | with_reducible (replace h := Int.not_le.mp h) | with_reducible (replace h := band_dec h) | with_reducible (replace h := band_decF h) | with_reducible (replace h := bor_dec h) | with_reducible (replace h := bor_decF h)))) <;> (try (exfalso; first | contradiction | omega))) | fail)
  obtain ⟨gb, rfl⟩ : ∃ x, x = g := ⟨_, rfl⟩
  refine T_loop (X := Nat) (fun k => [(25, .int .i64 (k : Nat)), (24, .int .i64 cs.length), (23, .slice A cs.length c), (0, .slice A cs.length c), (2, .pointer (some ⟨gb, 0, none⟩))]) (fun _ => [entBlk gb 43 #[.int .i64 0, .int .i64 0, .int .i64 0]]) (fun k => k ≤ cs.length ∧ ∀ i, i < k → strzB cs i = false) (fun k => cs.length - k) 0 ⟨by omega, fun i hi => by omega⟩ (by (repeat (first | exact SubE.nil _ | refine SubE.cons rfl ?_))) (fun w' hw => hw.sel (by (repeat (first | exact Sel.nil _ | (apply Sel.cons; (repeat (first | with_reducible exact Pick.here _ _ | with_reducible apply Pick.there))))))) ?_
  rintro k ⟨hk, hno⟩
  by_cases hkl : k < cs.length
  · obtain ⟨b, o, rfl, _⟩ := RdE.open hA (by omega)
    have hck := clK_eq hkl
    have hst : strzB cs k = (decide (cs[k].kind = 2) && (decide (cs[k].to ≠ -1) && (decide (cs[k].res ≠ 0) && decide (wrBy cs cs[k].res < 0)))) := by unfold strzB; rw [hck]
    have hRk := hR1 k hkl hno
    have hwo := hwo cs[k].res
    rw [hst] at hRk
    have hnos : strzB cs k = false → ∀ i, i < k + 1 → strzB cs i = false := fun h i hi => (Nat.lt_succ_iff_lt_or_eq.1 hi).elim (fun e => hno i e) (fun e => by subst e; exact h)
    rw [hst] at hnos
    have n1 := fun h : ¬ cs[k].kind = 2 => hnos (by rw [decide_eq_false h]; rfl)
    have n2 := fun h : cs[k].to = -1 => hnos (by rw [decide_eq_false (not_not_intro h), Bool.false_and, Bool.and_false])
    have n3 := fun h : cs[k].res = 0 => hnos (by rw [decide_eq_false (not_not_intro h), Bool.false_and, Bool.and_false, Bool.and_false])
    clear hR1 hR2 hR3 hzo hst
    by_cases hneg : wrBy cs cs[k].res < 0
    · rw [if_pos hneg, decide_eq_false (show ¬ 0 ≤ wrBy cs cs[k].res by omega)] at hwo
      have hy := fun (h1 : cs[k].kind = 2) (h2 : ¬ cs[k].to = -1) (h3 : ¬ cs[k].res = 0) => hRk (by rw [decide_eq_true h1, decide_eq_true h2, decide_eq_true h3, decide_eq_true hneg]; rfl)
      clear hRk hnos
      repeat' (first | ((first | with_reducible (first | apply TL_q | apply TD_q0 | apply TD_q1 | apply TD_q2 | apply TD_q3) | ((with_reducible (first | apply TD_q0y | apply TD_q1y)); exact rfl; exact rfl; (with_reducible exact rfl))); exact QSarm_ZnA; exact rfl) | (refine GO ?_) | (refine GOE ?_; (first | (rintro _ _ ⟨rfl, rfl⟩) | (rintro _ _ ⟨g, rfl, rfl⟩) | (rintro _ _ ⟨A', c', rfl, rfl⟩))) | ((refine GO2 ?_ ?_) <;> intro h <;> (try (repeat (first | with_reducible (replace h := of_decide_eq_true h) | with_reducible (replace h := of_decide_eq_false h) | with_reducible (replace h := bnt h) | with_reducible (replace h := bnf h) | with_reducible (replace h := Int.not_lt.mp h) | with_reducible (replace h := Int.not_le.mp h) | with_reducible (replace h := band_dec h) | with_reducible (replace h := band_decF h) | with_reducible (replace h := bor_dec h) | with_reducible (replace h := bor_decF h)))) <;> (try (exfalso; first | contradiction | omega))) | ((with_reducible (first | apply TD_e2z | apply TD_e3z | apply TL_e | apply TD_e2 | apply TD_e3)); ((with_reducible apply ES_callV (f := 38)); exact rfl; (intro w hw; exact hwo w (hw.rd rfl hA)); exact rfl); (first | exact rfl | exact ⟨rfl, rfl, rfl⟩); (rintro _ _ ⟨rfl, rfl⟩); (try refine ⟨SUB, ?_⟩)) | fail)
      all_goals first
        | exact At_rounds (k + 1) ⟨hkl, n1 (by assumption)⟩ (by omega) (by (repeat (first | exact SubE.nil _ | refine SubE.cons rfl ?_))) (by exact SUBS)
        | exact At_rounds (k + 1) ⟨hkl, n2 (by assumption)⟩ (by omega) (by (repeat (first | exact SubE.nil _ | refine SubE.cons rfl ?_))) (by exact SUBS)
        | exact At_rounds (k + 1) ⟨hkl, n3 (by assumption)⟩ (by omega) (by (repeat (first | exact SubE.nil _ | refine SubE.cons rfl ?_))) (by exact SUBS)
        | (obtain rfl := hy (by assumption) (by assumption) (by assumption); ((with_reducible apply At_retM Try.results15); (repeat (first | exact ResIs.nil | (apply ResIs.tmp; exact rfl) | (apply ResIs.cell; exact rfl; exact Lds.auto))); intro w' hw); exact ⟨rfl, hw.below0 rfl⟩)
    · rw [if_neg hneg, decide_eq_true (show 0 ≤ wrBy cs cs[k].res by omega)] at hwo
      have n4 := hnos (by rw [decide_eq_false hneg, Bool.and_false, Bool.and_false, Bool.and_false])
      clear hRk hnos n1 n2 n3
      repeat' (first | ((first | with_reducible (first | apply TL_q | apply TD_q0 | apply TD_q1 | apply TD_q2 | apply TD_q3) | ((with_reducible (first | apply TD_q0y | apply TD_q1y)); exact rfl; exact rfl; (with_reducible exact rfl))); exact QSarm_ZnA; exact rfl) | (refine GO ?_) | (refine GOE ?_; (first | (rintro _ _ ⟨rfl, rfl⟩) | (rintro _ _ ⟨g, rfl, rfl⟩) | (rintro _ _ ⟨A', c', rfl, rfl⟩))) | ((refine GO2 ?_ ?_) <;> intro h <;> (try (repeat (first | with_reducible (replace h := of_decide_eq_true h) | with_reducible (replace h := of_decide_eq_false h) | with_reducible (replace h := bnt h) | with_reducible (replace h := bnf h) | with_reducible (replace h := Int.not_lt.mp h) | with_reducible (replace h := Int.not_le.mp h) | with_reducible (replace h := band_dec h) | with_reducible (replace h := band_decF h) | with_reducible (replace h := bor_dec h) | with_reducible (replace h := bor_decF h)))) <;> (try (exfalso; first | contradiction | omega))) | ((with_reducible (first | apply TD_e2z | apply TD_e3z | apply TL_e | apply TD_e2 | apply TD_e3)); ((with_reducible apply ES_callV (f := 38)); exact rfl; (intro w hw; exact hwo w (hw.rd rfl hA)); exact rfl); (first | exact rfl | exact ⟨rfl, rfl, rfl⟩); (rintro _ _ ⟨rfl, rfl⟩); (try refine ⟨SUB, ?_⟩)) | fail)
      all_goals first
        | exact At_rounds (k + 1) ⟨hkl, n4⟩ (by omega) (by (repeat (first | exact SubE.nil _ | refine SubE.cons rfl ?_))) (by exact SUBS)
        | (exfalso; simp_all; done)
  obtain rfl : k = cs.length := by omega
  have hns := hno
  have hR2 := hR2 hno
  have hR3 := hR3 hno
  clear hR1 hk hkl hno
  repeat' (first | ((first | with_reducible (first | apply TL_q | apply TD_q0 | apply TD_q1 | apply TD_q2 | apply TD_q3) | ((with_reducible (first | apply TD_q0y | apply TD_q1y)); exact rfl; exact rfl; (with_reducible exact rfl))); exact QSarm_ZnA; exact rfl) | (refine GO ?_) | (refine GOE ?_; (first | (rintro _ _ ⟨rfl, rfl⟩) | (rintro _ _ ⟨g, rfl, rfl⟩) | (rintro _ _ ⟨A', c', rfl, rfl⟩))) | ((refine GO2 ?_ ?_) <;> intro h <;> (try (repeat (first | with_reducible (replace h := of_decide_eq_true h) | with_reducible (replace h := of_decide_eq_false h) | with_reducible (replace h := bnt h) | with_reducible (replace h := bnf h) | with_reducible (replace h := Int.not_lt.mp h) | with_reducible (replace h := Int.not_le.mp h) | with_reducible (replace h := band_dec h) | with_reducible (replace h := band_decF h) | with_reducible (replace h := bor_dec h) | with_reducible (replace h := bor_decF h)))) <;> (try (exfalso; first | contradiction | omega))) | fail)
  refine T_loop (X := Nat) (fun k => [(59, .int .i64 (k : Nat)), (58, .int .i64 cs.length), (57, .slice A cs.length c), (0, .slice A cs.length c), (2, .pointer (some ⟨gb, 0, none⟩))]) (fun _ => [entBlk gb 43 #[.int .i64 0, .int .i64 0, .int .i64 0]]) (fun k => k ≤ cs.length ∧ ∀ i, i < k → earzB cs i = false) (fun k => cs.length - k) 0 ⟨by omega, fun i hi => by omega⟩ (by (repeat (first | exact SubE.nil _ | refine SubE.cons rfl ?_))) (fun w' hw => hw.sel (by (repeat (first | exact Sel.nil _ | (apply Sel.cons; (repeat (first | with_reducible exact Pick.here _ _ | with_reducible apply Pick.there))))))) ?_
  rintro k ⟨hk, hno⟩
  by_cases hkl : k < cs.length
  · obtain ⟨b, o, rfl, _⟩ := RdE.open hA (by omega)
    have hck := clK_eq hkl
    have hea : earzB cs k = (decide (cs[k].kind = 2) && (decide (cs[k].to ≠ -1) && (decide (0 ≤ wrBy cs cs[k].res) && decide (cs[k].to < (clK cs (wrBy cs cs[k].res).toNat).from_)))) := by unfold earzB; rw [hck]
    have hRk := hR2 k hkl hno
    have hwo := hwo cs[k].res
    rw [hea] at hRk
    rw [hck] at hRk
    have hnos : earzB cs k = false → ∀ i, i < k + 1 → earzB cs i = false := fun h i hi => (Nat.lt_succ_iff_lt_or_eq.1 hi).elim (fun e => hno i e) (fun e => by subst e; exact h)
    rw [hea] at hnos
    have n1 := fun h : ¬ cs[k].kind = 2 => hnos (by rw [decide_eq_false h]; rfl)
    have n2 := fun h : cs[k].to = -1 => hnos (by rw [decide_eq_false (not_not_intro h), Bool.false_and, Bool.and_false])
    clear hR2 hR3 hzo hea
    by_cases hneg : wrBy cs cs[k].res < 0
    · rw [if_pos hneg, decide_eq_false (show ¬ 0 ≤ wrBy cs cs[k].res by omega)] at hwo
      have n4 := hnos (by rw [decide_eq_false (show ¬ 0 ≤ wrBy cs cs[k].res by omega), Bool.false_and, Bool.and_false, Bool.and_false])
      clear hRk hnos n1 n2
      repeat' (first | ((first | with_reducible (first | apply TL_q | apply TD_q0 | apply TD_q1 | apply TD_q2 | apply TD_q3) | ((with_reducible (first | apply TD_q0y | apply TD_q1y)); exact rfl; exact rfl; (with_reducible exact rfl))); exact QSarm_ZnA; exact rfl) | (refine GG ?_) | (refine GE ?_; (first | (rintro _ _ ⟨rfl, rfl⟩) | (rintro _ _ ⟨g, rfl, rfl⟩) | (rintro _ _ ⟨A', c', rfl, rfl⟩)); (try refine ⟨SUB, ?_⟩)) | ((refine GO2 ?_ ?_) <;> intro h <;> (try (repeat (first | with_reducible (replace h := of_decide_eq_true h) | with_reducible (replace h := of_decide_eq_false h) | with_reducible (replace h := bnt h) | with_reducible (replace h := bnf h) | with_reducible (replace h := Int.not_lt.mp h) | with_reducible (replace h := Int.not_le.mp h) | with_reducible (replace h := band_dec h) | with_reducible (replace h := band_decF h) | with_reducible (replace h := bor_dec h) | with_reducible (replace h := bor_decF h)))) <;> (try (exfalso; first | contradiction | omega))) | (refine GOF ?_ ?_) | (refine DRarm0_ZnA ?_) | ((with_reducible (first | apply TD_e2z | apply TD_e3z | apply TL_e | apply TD_e2 | apply TD_e3)); ((with_reducible apply ES_callV (f := 38)); exact rfl; (intro w hw; exact hwo w (hw.rd rfl hA)); exact rfl); (first | exact rfl | exact ⟨rfl, rfl, rfl⟩); (rintro _ _ ⟨rfl, rfl⟩); (try refine ⟨SUB, ?_⟩)) | fail)
      all_goals first
        | exact At_rounds (k + 1) ⟨hkl, n4⟩ (by omega) (by (repeat (first | exact SubE.nil _ | refine SubE.cons rfl ?_))) (by exact SUBS)
        | (exfalso; simp_all; done)
    · obtain ⟨q, hq1, hq2, _, _⟩ := wrBy_at (show 0 ≤ wrBy cs cs[k].res by omega)
      rw [if_neg hneg, decide_eq_true (show 0 ≤ wrBy cs cs[k].res by omega), hq1] at hwo
      rw [hq1, Int.toNat_natCast, clK_eq hq2, decide_eq_true (show (0 : Int) ≤ (q : Nat) by omega)] at hRk hnos
      have hy := fun (h1 : cs[k].kind = 2) (h2 : ¬ cs[k].to = -1) (h3 : cs[k].to < cs[q].from_) => hRk (by rw [decide_eq_true h1, decide_eq_true h2, decide_eq_true h3]; rfl)
      have n3 := fun h : ¬ cs[k].to < cs[q].from_ => hnos (by rw [decide_eq_false h, Bool.and_false, Bool.and_false, Bool.and_false])
      have n3' := fun h : cs[q].from_ ≤ cs[k].to => n3 (by omega)
      clear hRk hnos
      repeat' (first | ((first | with_reducible (first | apply TL_q | apply TD_q0 | apply TD_q1 | apply TD_q2 | apply TD_q3) | ((with_reducible (first | apply TD_q0y | apply TD_q1y)); exact rfl; exact rfl; (with_reducible exact rfl))); exact QSarm_ZnA; exact rfl) | (refine GG ?_) | (refine GE ?_; (first | (rintro _ _ ⟨rfl, rfl⟩) | (rintro _ _ ⟨g, rfl, rfl⟩) | (rintro _ _ ⟨A', c', rfl, rfl⟩)); (try refine ⟨SUB, ?_⟩)) | ((refine GO2 ?_ ?_) <;> intro h <;> (try (repeat (first | with_reducible (replace h := of_decide_eq_true h) | with_reducible (replace h := of_decide_eq_false h) | with_reducible (replace h := bnt h) | with_reducible (replace h := bnf h) | with_reducible (replace h := Int.not_lt.mp h) | with_reducible (replace h := Int.not_le.mp h) | with_reducible (replace h := band_dec h) | with_reducible (replace h := band_decF h) | with_reducible (replace h := bor_dec h) | with_reducible (replace h := bor_decF h)))) <;> (try (exfalso; first | contradiction | omega))) | (refine GOF ?_ ?_) | (refine DRarm0_ZnA ?_) | ((with_reducible (first | apply TD_e2z | apply TD_e3z | apply TL_e | apply TD_e2 | apply TD_e3)); ((with_reducible apply ES_callV (f := 38)); exact rfl; (intro w hw; exact hwo w (hw.rd rfl hA)); exact rfl); (first | exact rfl | exact ⟨rfl, rfl, rfl⟩); (rintro _ _ ⟨rfl, rfl⟩); (try refine ⟨SUB, ?_⟩)) | fail)
      all_goals first
        | exact At_rounds (k + 1) ⟨hkl, n1 (by assumption)⟩ (by omega) (by (repeat (first | exact SubE.nil _ | refine SubE.cons rfl ?_))) (by exact SUBS)
        | exact At_rounds (k + 1) ⟨hkl, n2 (by assumption)⟩ (by omega) (by (repeat (first | exact SubE.nil _ | refine SubE.cons rfl ?_))) (by exact SUBS)
        | exact At_rounds (k + 1) ⟨hkl, n3 (by assumption)⟩ (by omega) (by (repeat (first | exact SubE.nil _ | refine SubE.cons rfl ?_))) (by exact SUBS)
        | exact At_rounds (k + 1) ⟨hkl, n3' (by assumption)⟩ (by omega) (by (repeat (first | exact SubE.nil _ | refine SubE.cons rfl ?_))) (by exact SUBS)
        | (obtain rfl := hy (by assumption) (by assumption) (by assumption); ((with_reducible apply At_retM Try.results15); (repeat (first | exact ResIs.nil | (apply ResIs.tmp; exact rfl) | (apply ResIs.cell; exact rfl; exact Lds.auto))); intro w' hw); exact ⟨rfl, hw.below0 rfl⟩)
  obtain rfl : k = cs.length := by omega
  have hR3 := hR3 hno
  clear hR2 hk hkl hno hwo
  repeat' (first | ((first | with_reducible (first | apply TL_q | apply TD_q0 | apply TD_q1 | apply TD_q2 | apply TD_q3) | ((with_reducible (first | apply TD_q0y | apply TD_q1y)); exact rfl; exact rfl; (with_reducible exact rfl))); exact QSarm_ZnA; exact rfl) | (refine GO ?_) | (refine GOE ?_; (first | (rintro _ _ ⟨rfl, rfl⟩) | (rintro _ _ ⟨g, rfl, rfl⟩) | (rintro _ _ ⟨A', c', rfl, rfl⟩))) | ((refine GO2 ?_ ?_) <;> intro h <;> (try (repeat (first | with_reducible (replace h := of_decide_eq_true h) | with_reducible (replace h := of_decide_eq_false h) | with_reducible (replace h := bnt h) | with_reducible (replace h := bnf h) | with_reducible (replace h := Int.not_lt.mp h) | with_reducible (replace h := Int.not_le.mp h) | with_reducible (replace h := band_dec h) | with_reducible (replace h := band_decF h) | with_reducible (replace h := bor_dec h) | with_reducible (replace h := bor_decF h)))) <;> (try (exfalso; first | contradiction | omega))) | fail)
  refine T_loop (X := Nat × Option Addr × Nat) (fun x => [(96, .int .i64 (x.1 : Nat)), (11, .slice x.2.1 (zonL cs x.1).length x.2.2), (0, .slice A cs.length c), (2, .pointer (some ⟨gb, 0, none⟩))]) (fun x => [entOwn Zon.enc 4 50 x.2.1 x.2.2 (zonL cs x.1), entBlk gb 43 #[.int .i64 0, .int .i64 0, .int .i64 0]]) (fun x => x.1 ≤ 1001) (fun x => 1001 - x.1) (0, none, 0) (by (try dsimp only); omega) (by (try dsimp only); (repeat (first | exact SubE.nil _ | refine SubE.cons rfl ?_))) (fun w' hw => by rw [show zonL cs 0 = [] from rfl]; exact (hw.nilOwn Zon.enc 4 50).sel (by (repeat (first | exact Sel.nil _ | (apply Sel.cons; (repeat (first | with_reducible exact Pick.here _ _ | with_reducible apply Pick.there))))))) ?_
  rintro ⟨v, A1, c1⟩ hv
  dsimp only at hv ⊢
  have hzl := zonL_len cs v
  by_cases hvl : v < 1001
  · have hzs := zonL_succ cs v
    have hzo := hzo (v : Nat)
    rw [okD_is] at hzo
    generalize zonL cs v = L at *
    cases hb : (isV cs v && (endZ cs (v : Nat)).some_)
    · rw [if_neg (by rw [hb]; decide)] at hzs
      rw [hb] at hzo
      have hvl2 : ((v : Nat) : Int) < 1001 := by omega
      repeat' (first | ((first | with_reducible (first | apply TL_q | apply TD_q0 | apply TD_q1 | apply TD_q2 | apply TD_q3) | ((with_reducible (first | apply TD_q0y | apply TD_q1y)); exact rfl; exact rfl; (with_reducible exact rfl))); exact QSarm_ZnA; exact rfl) | (refine GO ?_) | (refine GOE ?_; (first | (rintro _ _ ⟨rfl, rfl⟩) | (rintro _ _ ⟨g, rfl, rfl⟩) | (rintro _ _ ⟨A', c', rfl, rfl⟩))) | ((refine GO2 ?_ ?_) <;> intro h <;> (try (repeat (first | with_reducible (replace h := of_decide_eq_true h) | with_reducible (replace h := of_decide_eq_false h) | with_reducible (replace h := bnt h) | with_reducible (replace h := bnf h) | with_reducible (replace h := Int.not_lt.mp h) | with_reducible (replace h := Int.not_le.mp h) | with_reducible (replace h := band_dec h) | with_reducible (replace h := band_decF h) | with_reducible (replace h := bor_dec h) | with_reducible (replace h := bor_decF h)))) <;> (try (exfalso; first | contradiction | omega))) | ((with_reducible (first | apply TD_e2z | apply TD_e3z | apply TL_e | apply TD_e2 | apply TD_e3)); ((with_reducible apply ES_callV (f := 14)); exact rfl; (intro w hw; exact hzo w (hw.rd rfl hA)); exact rfl); (first | exact rfl | exact ⟨rfl, rfl, rfl⟩); (rintro _ _ ⟨rfl, rfl⟩); (try refine ⟨SUB, ?_⟩)) | fail)
      all_goals (apply At_rounds (v + 1, A1, c1); (case hE => (try dsimp only); rw [hzs]; (repeat (first | exact SubE.nil _ | refine SubE.cons rfl ?_))); (case hS => (try dsimp only); rw [hzs]; exact fun w' hw => hw.sel (by (repeat (first | exact Sel.nil _ | (apply Sel.cons; (repeat (first | with_reducible exact Pick.here _ _ | with_reducible apply Pick.there))))))); (case hμ => (try dsimp only); omega); (case hp => (try dsimp only); omega))
    · rw [if_pos hb] at hzs
      rw [hb, zonD_is hb] at hzo
      have hvl2 : ((v : Nat) : Int) < 1001 := by omega
      generalize zonE cs (v : Nat) = ze at *
      repeat' (first | ((first | with_reducible (first | apply TL_q | apply TD_q0 | apply TD_q1 | apply TD_q2 | apply TD_q3) | ((with_reducible (first | apply TD_q0y | apply TD_q1y)); exact rfl; exact rfl; (with_reducible exact rfl))); exact QSarm_ZnA; exact rfl) | (refine GO ?_) | (refine GOE ?_; (first | (rintro _ _ ⟨rfl, rfl⟩) | (rintro _ _ ⟨g, rfl, rfl⟩) | (rintro _ _ ⟨A', c', rfl, rfl⟩))) | ((refine GO2 ?_ ?_) <;> intro h <;> (try (repeat (first | with_reducible (replace h := of_decide_eq_true h) | with_reducible (replace h := of_decide_eq_false h) | with_reducible (replace h := bnt h) | with_reducible (replace h := bnf h) | with_reducible (replace h := Int.not_lt.mp h) | with_reducible (replace h := Int.not_le.mp h) | with_reducible (replace h := band_dec h) | with_reducible (replace h := band_decF h) | with_reducible (replace h := bor_dec h) | with_reducible (replace h := bor_decF h)))) <;> (try (exfalso; first | contradiction | omega))) | ((with_reducible (first | apply TD_e2z | apply TD_e3z | apply TL_e | apply TD_e2 | apply TD_e3)); ((with_reducible apply ES_callV (f := 14)); exact rfl; (intro w hw; exact hzo w (hw.rd rfl hA)); exact rfl); (first | exact rfl | exact ⟨rfl, rfl, rfl⟩); (rintro _ _ ⟨rfl, rfl⟩); (try refine ⟨SUB, ?_⟩)) | ((with_reducible (first | apply TD_e2z | apply TD_e3z | apply TL_e | apply TD_e2 | apply TD_e3)); ((with_reducible apply ES_append1 (enc := Zon.enc) (xx := ze)); exact rfl; exact rfl; (repeat (first | with_reducible exact List.mem_cons_self | with_reducible apply List.mem_cons_of_mem)); exact rfl; exact fun _ => rfl; exact fun _ => rfl; (intro A' c'; first | ((repeat (first | with_reducible exact Upd.here _ _ _ | with_reducible apply Upd.there)); done) | (repeat (first | exact Upd.here _ _ _ | apply Upd.there))); (omega); decide; exact rfl); (first | exact rfl | exact ⟨rfl, rfl, rfl⟩); (rintro _ _ ⟨A', c', rfl, rfl⟩); (try refine ⟨SUB, ?_⟩)) | fail)
      all_goals (apply At_rounds (v + 1, A', c'); (case hE => (try dsimp only); rw [hzs]; (repeat (first | exact SubE.nil _ | refine SubE.cons rfl ?_))); (case hS => (try dsimp only); rw [hzs]; exact fun w' hw => hw.sel (by (repeat (first | exact Sel.nil _ | (apply Sel.cons; (repeat (first | with_reducible exact Pick.here _ _ | with_reducible apply Pick.there))))))); (case hμ => (try dsimp only); omega); (case hp => (try dsimp only); omega))
  obtain rfl : v = 1001 := by omega
  have hfw := fun z (hz : z ∈ zonL cs 1001) => zonL_fwd z hz
  clear hzo
  generalize zonL cs 1001 = Z at *
  have hQ1 := fun i k hi hk h1 h2 h => pairsV_cross (Z := Z) (i := i) (k := k) hi hk h1 h2 h
  have hQ2 := fun h0 i k hi hk h1 h2 h => pairsV_inside (Z := Z) h0 (i := i) (k := k) hi hk h1 h2 h
  have hQ3 := fun h0 h1 => pairsV_none (Z := Z) h0 h1
  rw [← hR3] at hQ1 hQ2 hQ3
  clear hR3 hns hvl hv
  repeat' (first | ((first | with_reducible (first | apply TL_q | apply TD_q0 | apply TD_q1 | apply TD_q2 | apply TD_q3) | ((with_reducible (first | apply TD_q0y | apply TD_q1y)); exact rfl; exact rfl; (with_reducible exact rfl))); exact QSarm_ZnA; exact rfl) | (refine GO ?_) | (refine GOE ?_; (first | (rintro _ _ ⟨rfl, rfl⟩) | (rintro _ _ ⟨g, rfl, rfl⟩) | (rintro _ _ ⟨A', c', rfl, rfl⟩))) | ((refine GO2 ?_ ?_) <;> intro h <;> (try (repeat (first | with_reducible (replace h := of_decide_eq_true h) | with_reducible (replace h := of_decide_eq_false h) | with_reducible (replace h := bnt h) | with_reducible (replace h := bnf h) | with_reducible (replace h := Int.not_lt.mp h) | with_reducible (replace h := Int.not_le.mp h) | with_reducible (replace h := band_dec h) | with_reducible (replace h := band_decF h) | with_reducible (replace h := bor_dec h) | with_reducible (replace h := bor_decF h)))) <;> (try (exfalso; first | contradiction | omega))) | fail)
  obtain ⟨AZ, hAZ⟩ : ∃ x, x = A1 := ⟨_, rfl⟩
  obtain ⟨cz, hcz⟩ : ∃ x, x = c1 := ⟨_, rfl⟩
  rw [← hAZ, ← hcz]
  clear hAZ hcz A1 c1
  refine T_fact (p := Z.length ≤ cz ∧ (AZ = none → cz = 0)) (fun w hw => hw.ownFacts (enc := Zon.enc) (M := 4) (et := 50) (by first | ((repeat (first | with_reducible exact List.mem_cons_self | with_reducible apply List.mem_cons_of_mem)); done) | (repeat (first | exact List.Mem.head _ | apply List.Mem.tail)))) fun hf => ?_
  have hlc := hf.1
  refine T_loop (X := Nat) (fun i => [(113, .int .i64 (i : Nat)), (112, .int .i64 Z.length), (111, .slice AZ Z.length cz), (11, .slice AZ Z.length cz), (2, .pointer (some ⟨gb, 0, none⟩))]) (fun _ => [entOwn Zon.enc 4 50 AZ cz Z, entBlk gb 43 #[.int .i64 0, .int .i64 0, .int .i64 0]])
    (fun i => i ≤ Z.length ∧ ∀ j, j < i → ∀ q, q < Z.length → crossB Z j q = false) (fun i => Z.length - i) 0 ⟨by omega, fun j hj => by omega⟩ (by (repeat (first | exact SubE.nil _ | refine SubE.cons rfl ?_))) (fun w' hw => hw.sel (by (repeat (first | exact Sel.nil _ | (apply Sel.cons; (repeat (first | with_reducible exact Pick.here _ _ | with_reducible apply Pick.there))))))) ?_
  rintro i ⟨hi, hno⟩
  by_cases hil : i < Z.length
  · have hde := fun q (h : i < q) (hq : q < Z.length) => crossB_eq (Z := Z) hil hq
    have hle := fun q (h : q ≤ i) => crossB_le (Z := Z) h
    have hRi := hQ1 i
    have hfi := hfw Z[i] (List.getElem_mem _)
    refine T_own (enc := Zon.enc) (ls := Z) (by first | ((repeat (first | with_reducible exact List.mem_cons_self | with_reducible apply List.mem_cons_of_mem)); done) | (repeat (first | exact List.Mem.head _ | apply List.Mem.tail))) (by omega) ?_
    rintro gZ rfl
    clear hQ1 hQ2 hQ3
    repeat' (first | ((first | with_reducible (first | apply TL_q | apply TD_q0 | apply TD_q1 | apply TD_q2 | apply TD_q3) | ((with_reducible (first | apply TD_q0y | apply TD_q1y)); exact rfl; exact rfl; (with_reducible exact rfl))); exact QSarm_ZnA; exact rfl) | (refine GO ?_) | (refine GOE ?_; (first | (rintro _ _ ⟨rfl, rfl⟩) | (rintro _ _ ⟨g, rfl, rfl⟩) | (rintro _ _ ⟨A', c', rfl, rfl⟩))) | ((refine GO2 ?_ ?_) <;> intro h <;> (try (repeat (first | with_reducible (replace h := of_decide_eq_true h) | with_reducible (replace h := of_decide_eq_false h) | with_reducible (replace h := bnt h) | with_reducible (replace h := bnf h) | with_reducible (replace h := Int.not_lt.mp h) | with_reducible (replace h := Int.not_le.mp h) | with_reducible (replace h := band_dec h) | with_reducible (replace h := band_decF h) | with_reducible (replace h := bor_dec h) | with_reducible (replace h := bor_decF h)))) <;> (try (exfalso; first | contradiction | omega))) | fail)
    obtain ⟨g5, rfl⟩ : ∃ x, x = g := ⟨_, rfl⟩
    refine T_loop (X := Nat) (fun j => [(123, .int .i64 (j : Nat)), (122, .int .i64 ((Z.length - (i + 1) : Nat) : Int)), (121, .slice (some ⟨gZ, if cz = i + 1 then 0 else 0 + (i + 1) * 4, none⟩) (Z.length - (i + 1)) (cz - (i + 1))), (16, .pointer (some ⟨g5, 0, none⟩)), (113, .int .i64 (i : Nat)), (112, .int .i64 Z.length), (111, .slice (some ⟨gZ, 0, none⟩) Z.length cz), (11, .slice (some ⟨gZ, 0, none⟩) Z.length cz), (2, .pointer (some ⟨gb, 0, none⟩))]) (fun _ => [entBlk g5 50 (Zon.enc Z[i]).toArray, entOwn Zon.enc 4 50 (some ⟨gZ, 0, none⟩) cz Z, entBlk gb 43 #[.int .i64 0, .int .i64 0, .int .i64 0]])
      (fun j => j ≤ Z.length - (i + 1) ∧ ∀ q, q < i + 1 + j → crossB Z i q = false) (fun j => Z.length - (i + 1) - j) 0 ⟨by omega, fun q hq => hle q (by omega)⟩ (by (repeat (first | exact SubE.nil _ | refine SubE.cons rfl ?_))) (fun w' hw => hw.sel (by (repeat (first | exact Sel.nil _ | (apply Sel.cons; (repeat (first | with_reducible exact Pick.here _ _ | with_reducible apply Pick.there))))))) ?_
    rintro j ⟨hj, hnj⟩
    by_cases hjl : j < Z.length - (i + 1)
    · rw [if_neg (show ¬ cz = i + 1 by omega)]
      obtain ⟨k, hk⟩ : ∃ k, k = i + 1 + j := ⟨_, rfl⟩
      have hkl : k < Z.length := by omega
      have hcr := hde k (by omega) hkl
      have hfk := hfw Z[k] (List.getElem_mem _)
      have hRk := hRi k hil hkl hno (fun q hq => hnj q (by omega))
      rw [decide_eq_true (show i < k by omega), Bool.true_and] at hcr
      rw [hcr] at hRk
      have hnk : (Z[i].fwd && (Z[k].fwd && meetB Z[i] Z[k])) = false → ∀ q, q < i + 1 + (j + 1) → crossB Z i q = false := fun e q hq => (Nat.lt_succ_iff_lt_or_eq.1 (show q < (i + 1 + j) + 1 by omega)).elim (fun e2 => hnj q e2) (fun e2 => by rw [e2, ← hk, hcr]; exact e)
      have hn1 := fun h : Z[i].fwd = false => hnk (by rw [h]; rfl)
      have hn2 := fun h : Z[k].fwd = false => hnk (by rw [h, Bool.false_and, Bool.and_false])
      have hmm := fun (h1 : Z[i].fwd = true) (h2 : Z[k].fwd = true) => meet_max (a := Z[i]) (b := Z[k]) (of_decide_eq_true (hfi.symm.trans h1)) (of_decide_eq_true (hfk.symm.trans h2))
      have hn3 := fun (h1 : Z[i].fwd = true) (h2 : Z[k].fwd = true) (h3 : min Z[i].last Z[k].last ≤ max Z[i].first Z[k].first) => hnk (by rw [← hmm h1 h2, decide_eq_false (by omega), Bool.and_false, Bool.and_false])
      have hn0 := fun (h1 : Z[i].fwd = true) (h2 : Z[k].fwd = true) (h3 : max Z[i].first Z[k].first < min Z[i].last Z[k].last) => hRk (by rw [← hmm h1 h2, h1, h2, decide_eq_true h3]; rfl)
      clear hde hno hnj hRi hcr hnk hRk hmm hfi hfk hfw
      repeat' (first | ((first | with_reducible (first | apply TL_q | apply TD_q0 | apply TD_q1 | apply TD_q2 | apply TD_q3) | ((with_reducible (first | apply TD_q0y | apply TD_q1y)); exact rfl; exact rfl; (with_reducible exact rfl))); exact QSarm_ZnA; exact rfl) | (refine GO ?_) | (refine GOE ?_; (first | (rintro _ _ ⟨rfl, rfl⟩) | (rintro _ _ ⟨g, rfl, rfl⟩) | (rintro _ _ ⟨A', c', rfl, rfl⟩))) | ((refine GO2 ?_ ?_) <;> intro h <;> (try (repeat (first | with_reducible (replace h := of_decide_eq_true h) | with_reducible (replace h := of_decide_eq_false h) | with_reducible (replace h := bnt h) | with_reducible (replace h := bnf h) | with_reducible (replace h := Int.not_lt.mp h) | with_reducible (replace h := Int.not_le.mp h) | with_reducible (replace h := band_dec h) | with_reducible (replace h := band_decF h) | with_reducible (replace h := bor_dec h) | with_reducible (replace h := bor_decF h)))) <;> (try (exfalso; first | contradiction | omega))) | fail)
      all_goals first
        | exact At_rounds (j + 1) ⟨by omega, hn1 (by assumption)⟩ (by omega) (by (repeat (first | exact SubE.nil _ | refine SubE.cons rfl ?_))) (fun w' hw => hw.sel (by (repeat (first | exact Sel.nil _ | (apply Sel.cons; (repeat (first | with_reducible exact Pick.here _ _ | with_reducible apply Pick.there)))))))
        | exact At_rounds (j + 1) ⟨by omega, hn2 (by assumption)⟩ (by omega) (by (repeat (first | exact SubE.nil _ | refine SubE.cons rfl ?_))) (fun w' hw => hw.sel (by (repeat (first | exact Sel.nil _ | (apply Sel.cons; (repeat (first | with_reducible exact Pick.here _ _ | with_reducible apply Pick.there)))))))
        | exact At_rounds (j + 1) ⟨by omega, hn3 (by assumption) (by assumption) (by assumption)⟩ (by omega) (by (repeat (first | exact SubE.nil _ | refine SubE.cons rfl ?_))) (fun w' hw => hw.sel (by (repeat (first | exact Sel.nil _ | (apply Sel.cons; (repeat (first | with_reducible exact Pick.here _ _ | with_reducible apply Pick.there)))))))
        | (obtain rfl := hn0 (by assumption) (by assumption) (by assumption); ((with_reducible apply At_retM Try.results15); (repeat (first | exact ResIs.nil | (apply ResIs.tmp; exact rfl) | (apply ResIs.cell; exact rfl; exact Lds.auto))); intro w' hw); exact ⟨rfl, hw.below0 rfl⟩)
    · have hjn : j = Z.length - (i + 1) := by omega
      have hno2 : ∀ q, q < i + 1 → ∀ r, r < Z.length → crossB Z q r = false := fun q hq r hr => (Nat.lt_succ_iff_lt_or_eq.1 hq).elim (fun e => hno q e r hr) (fun e => by subst e; exact hnj r (by omega))
      clear hno hnj
      repeat' (first | ((first | with_reducible (first | apply TL_q | apply TD_q0 | apply TD_q1 | apply TD_q2 | apply TD_q3) | ((with_reducible (first | apply TD_q0y | apply TD_q1y)); exact rfl; exact rfl; (with_reducible exact rfl))); exact QSarm_ZnA; exact rfl) | (refine GO ?_) | (refine GOE ?_; (first | (rintro _ _ ⟨rfl, rfl⟩) | (rintro _ _ ⟨g, rfl, rfl⟩) | (rintro _ _ ⟨A', c', rfl, rfl⟩))) | ((refine GO2 ?_ ?_) <;> intro h <;> (try (repeat (first | with_reducible (replace h := of_decide_eq_true h) | with_reducible (replace h := of_decide_eq_false h) | with_reducible (replace h := bnt h) | with_reducible (replace h := bnf h) | with_reducible (replace h := Int.not_lt.mp h) | with_reducible (replace h := Int.not_le.mp h) | with_reducible (replace h := band_dec h) | with_reducible (replace h := band_decF h) | with_reducible (replace h := bor_dec h) | with_reducible (replace h := bor_decF h)))) <;> (try (exfalso; first | contradiction | omega))) | fail)
      all_goals exact At_rounds (i + 1) ⟨by omega, hno2⟩ (by omega) (by (repeat (first | exact SubE.nil _ | refine SubE.cons rfl ?_))) (fun w' hw => hw.sel (by (repeat (first | exact Sel.nil _ | (apply Sel.cons; (repeat (first | with_reducible exact Pick.here _ _ | with_reducible apply Pick.there)))))))
  obtain rfl : i = Z.length := by omega
  have hQ2 := hQ2 hno
  have hQ3 := hQ3 hno
  clear hQ1
  repeat' (first | ((first | with_reducible (first | apply TL_q | apply TD_q0 | apply TD_q1 | apply TD_q2 | apply TD_q3) | ((with_reducible (first | apply TD_q0y | apply TD_q1y)); exact rfl; exact rfl; (with_reducible exact rfl))); exact QSarm_ZnA; exact rfl) | (refine GO ?_) | (refine GOE ?_; (first | (rintro _ _ ⟨rfl, rfl⟩) | (rintro _ _ ⟨g, rfl, rfl⟩) | (rintro _ _ ⟨A', c', rfl, rfl⟩))) | ((refine GO2 ?_ ?_) <;> intro h <;> (try (repeat (first | with_reducible (replace h := of_decide_eq_true h) | with_reducible (replace h := of_decide_eq_false h) | with_reducible (replace h := bnt h) | with_reducible (replace h := bnf h) | with_reducible (replace h := Int.not_lt.mp h) | with_reducible (replace h := Int.not_le.mp h) | with_reducible (replace h := band_dec h) | with_reducible (replace h := band_decF h) | with_reducible (replace h := bor_dec h) | with_reducible (replace h := bor_decF h)))) <;> (try (exfalso; first | contradiction | omega))) | fail)
  refine T_loop (X := Nat) (fun i => [(155, .int .i64 (i : Nat)), (154, .int .i64 Z.length), (153, .slice AZ Z.length cz), (11, .slice AZ Z.length cz), (2, .pointer (some ⟨gb, 0, none⟩))]) (fun _ => [entOwn Zon.enc 4 50 AZ cz Z, entBlk gb 43 #[.int .i64 0, .int .i64 0, .int .i64 0]])
    (fun i => i ≤ Z.length ∧ ∀ j, j < i → ∀ q, q < Z.length → insideB Z j q = false) (fun i => Z.length - i) 0 ⟨by omega, fun j hj => by omega⟩ (by (repeat (first | exact SubE.nil _ | refine SubE.cons rfl ?_))) (fun w' hw => hw.sel (by (repeat (first | exact Sel.nil _ | (apply Sel.cons; (repeat (first | with_reducible exact Pick.here _ _ | with_reducible apply Pick.there))))))) ?_
  clear hno hi hil
  rintro i ⟨hi, hno⟩
  by_cases hil : i < Z.length
  · have hde := fun q (hq : q < Z.length) => insideB_eq (Z := Z) hil hq
    have hRi := hQ2 i
    refine T_own (enc := Zon.enc) (ls := Z) (by first | ((repeat (first | with_reducible exact List.mem_cons_self | with_reducible apply List.mem_cons_of_mem)); done) | (repeat (first | exact List.Mem.head _ | apply List.Mem.tail))) (by omega) ?_
    rintro gZ rfl
    clear hQ2 hQ3
    repeat' (first | ((first | with_reducible (first | apply TL_q | apply TD_q0 | apply TD_q1 | apply TD_q2 | apply TD_q3) | ((with_reducible (first | apply TD_q0y | apply TD_q1y)); exact rfl; exact rfl; (with_reducible exact rfl))); exact QSarm_ZnA; exact rfl) | (refine GO ?_) | (refine GOE ?_; (first | (rintro _ _ ⟨rfl, rfl⟩) | (rintro _ _ ⟨g, rfl, rfl⟩) | (rintro _ _ ⟨A', c', rfl, rfl⟩))) | ((refine GO2 ?_ ?_) <;> intro h <;> (try (repeat (first | with_reducible (replace h := of_decide_eq_true h) | with_reducible (replace h := of_decide_eq_false h) | with_reducible (replace h := bnt h) | with_reducible (replace h := bnf h) | with_reducible (replace h := Int.not_lt.mp h) | with_reducible (replace h := Int.not_le.mp h) | with_reducible (replace h := band_dec h) | with_reducible (replace h := band_decF h) | with_reducible (replace h := bor_dec h) | with_reducible (replace h := bor_decF h)))) <;> (try (exfalso; first | contradiction | omega))) | fail)
    obtain ⟨g5, rfl⟩ : ∃ x, x = g := ⟨_, rfl⟩
    refine T_loop (X := Nat) (fun j => [(161, .int .i64 (j : Nat)), (160, .int .i64 Z.length), (159, .slice (some ⟨gZ, 0, none⟩) Z.length cz), (20, .pointer (some ⟨g5, 0, none⟩)), (155, .int .i64 (i : Nat)), (154, .int .i64 Z.length), (153, .slice (some ⟨gZ, 0, none⟩) Z.length cz), (11, .slice (some ⟨gZ, 0, none⟩) Z.length cz), (2, .pointer (some ⟨gb, 0, none⟩))]) (fun _ => [entBlk g5 50 (Zon.enc Z[i]).toArray, entOwn Zon.enc 4 50 (some ⟨gZ, 0, none⟩) cz Z, entBlk gb 43 #[.int .i64 0, .int .i64 0, .int .i64 0]])
      (fun j => j ≤ Z.length ∧ ∀ q, q < j → insideB Z i q = false) (fun j => Z.length - j) 0 ⟨by omega, fun q hq => by omega⟩ (by (repeat (first | exact SubE.nil _ | refine SubE.cons rfl ?_))) (fun w' hw => hw.sel (by (repeat (first | exact Sel.nil _ | (apply Sel.cons; (repeat (first | with_reducible exact Pick.here _ _ | with_reducible apply Pick.there))))))) ?_
    rintro k ⟨hk, hnj⟩
    by_cases hkl : k < Z.length
    · have hcr := hde k hkl
      have hRk := hRi k hil hkl hno hnj
      unfold meetB at hcr
      rw [hcr] at hRk
      have hnk : (Z[i].fwd && (!Z[k].fwd && (decide (Z[i].first < Z[k].last) && decide (Z[k].first < Z[i].last)))) = false → ∀ q, q < k + 1 → insideB Z i q = false := fun e q hq => (Nat.lt_succ_iff_lt_or_eq.1 hq).elim (fun e2 => hnj q e2) (fun e2 => by subst e2; rw [hcr]; exact e)
      have hn1 := fun h : Z[i].fwd = false => hnk (by rw [h]; rfl)
      have hn2 := fun h : Z[k].fwd = true => hnk (by rw [h, Bool.not_true, Bool.false_and, Bool.and_false])
      have hn3 := fun h : Z[k].last ≤ Z[i].first => hnk (by rw [decide_eq_false (show ¬ Z[i].first < Z[k].last by omega), Bool.false_and, Bool.and_false, Bool.and_false])
      have hn4 := fun h : Z[i].last ≤ Z[k].first => hnk (by rw [decide_eq_false (show ¬ Z[k].first < Z[i].last by omega), Bool.and_false, Bool.and_false, Bool.and_false])
      have hn0 := fun (h1 : Z[i].fwd = true) (h2 : Z[k].fwd = false) (h3 : Z[i].first < Z[k].last) (h4 : Z[k].first < Z[i].last) => hRk (by rw [h1, h2, decide_eq_true h3, decide_eq_true h4]; rfl)
      clear hde hno hnj hRi hcr hnk hRk
      repeat' (first | ((first | with_reducible (first | apply TL_q | apply TD_q0 | apply TD_q1 | apply TD_q2 | apply TD_q3) | ((with_reducible (first | apply TD_q0y | apply TD_q1y)); exact rfl; exact rfl; (with_reducible exact rfl))); exact QSarm_ZnA; exact rfl) | (refine GO ?_) | (refine GOE ?_; (first | (rintro _ _ ⟨rfl, rfl⟩) | (rintro _ _ ⟨g, rfl, rfl⟩) | (rintro _ _ ⟨A', c', rfl, rfl⟩))) | ((refine GO2 ?_ ?_) <;> intro h <;> (try (repeat (first | with_reducible (replace h := of_decide_eq_true h) | with_reducible (replace h := of_decide_eq_false h) | with_reducible (replace h := bnt h) | with_reducible (replace h := bnf h) | with_reducible (replace h := Int.not_lt.mp h) | with_reducible (replace h := Int.not_le.mp h) | with_reducible (replace h := band_dec h) | with_reducible (replace h := band_decF h) | with_reducible (replace h := bor_dec h) | with_reducible (replace h := bor_decF h)))) <;> (try (exfalso; first | contradiction | omega))) | fail)
      all_goals first
        | exact At_rounds (k + 1) ⟨by omega, hn1 (by assumption)⟩ (by omega) (by (repeat (first | exact SubE.nil _ | refine SubE.cons rfl ?_))) (fun w' hw => hw.sel (by (repeat (first | exact Sel.nil _ | (apply Sel.cons; (repeat (first | with_reducible exact Pick.here _ _ | with_reducible apply Pick.there)))))))
        | exact At_rounds (k + 1) ⟨by omega, hn2 (by assumption)⟩ (by omega) (by (repeat (first | exact SubE.nil _ | refine SubE.cons rfl ?_))) (fun w' hw => hw.sel (by (repeat (first | exact Sel.nil _ | (apply Sel.cons; (repeat (first | with_reducible exact Pick.here _ _ | with_reducible apply Pick.there)))))))
        | exact At_rounds (k + 1) ⟨by omega, hn3 (by assumption)⟩ (by omega) (by (repeat (first | exact SubE.nil _ | refine SubE.cons rfl ?_))) (fun w' hw => hw.sel (by (repeat (first | exact Sel.nil _ | (apply Sel.cons; (repeat (first | with_reducible exact Pick.here _ _ | with_reducible apply Pick.there)))))))
        | exact At_rounds (k + 1) ⟨by omega, hn4 (by assumption)⟩ (by omega) (by (repeat (first | exact SubE.nil _ | refine SubE.cons rfl ?_))) (fun w' hw => hw.sel (by (repeat (first | exact Sel.nil _ | (apply Sel.cons; (repeat (first | with_reducible exact Pick.here _ _ | with_reducible apply Pick.there)))))))
        | (obtain rfl := hn0 (by assumption) (by assumption) (by assumption) (by assumption); ((with_reducible apply At_retM Try.results15); (repeat (first | exact ResIs.nil | (apply ResIs.tmp; exact rfl) | (apply ResIs.cell; exact rfl; exact Lds.auto))); intro w' hw); exact ⟨rfl, hw.below0 rfl⟩)
    · obtain rfl : k = Z.length := by omega
      have hno2 : ∀ q, q < i + 1 → ∀ r, r < Z.length → insideB Z q r = false := fun q hq r hr => (Nat.lt_succ_iff_lt_or_eq.1 hq).elim (fun e => hno q e r hr) (fun e => by subst e; exact hnj r hr)
      clear hno hnj
      repeat' (first | ((first | with_reducible (first | apply TL_q | apply TD_q0 | apply TD_q1 | apply TD_q2 | apply TD_q3) | ((with_reducible (first | apply TD_q0y | apply TD_q1y)); exact rfl; exact rfl; (with_reducible exact rfl))); exact QSarm_ZnA; exact rfl) | (refine GO ?_) | (refine GOE ?_; (first | (rintro _ _ ⟨rfl, rfl⟩) | (rintro _ _ ⟨g, rfl, rfl⟩) | (rintro _ _ ⟨A', c', rfl, rfl⟩))) | ((refine GO2 ?_ ?_) <;> intro h <;> (try (repeat (first | with_reducible (replace h := of_decide_eq_true h) | with_reducible (replace h := of_decide_eq_false h) | with_reducible (replace h := bnt h) | with_reducible (replace h := bnf h) | with_reducible (replace h := Int.not_lt.mp h) | with_reducible (replace h := Int.not_le.mp h) | with_reducible (replace h := band_dec h) | with_reducible (replace h := band_decF h) | with_reducible (replace h := bor_dec h) | with_reducible (replace h := bor_decF h)))) <;> (try (exfalso; first | contradiction | omega))) | fail)
      all_goals exact At_rounds (i + 1) ⟨by omega, hno2⟩ (by omega) (by (repeat (first | exact SubE.nil _ | refine SubE.cons rfl ?_))) (fun w' hw => hw.sel (by (repeat (first | exact Sel.nil _ | (apply Sel.cons; (repeat (first | with_reducible exact Pick.here _ _ | with_reducible apply Pick.there)))))))
  · obtain rfl : i = Z.length := by omega
    obtain rfl := hQ3 hno
    repeat' (first | ((first | with_reducible (first | apply TL_q | apply TD_q0 | apply TD_q1 | apply TD_q2 | apply TD_q3) | ((with_reducible (first | apply TD_q0y | apply TD_q1y)); exact rfl; exact rfl; (with_reducible exact rfl))); exact QSarm_ZnA; exact rfl) | (refine GO ?_) | (refine GOE ?_; (first | (rintro _ _ ⟨rfl, rfl⟩) | (rintro _ _ ⟨g, rfl, rfl⟩) | (rintro _ _ ⟨A', c', rfl, rfl⟩))) | ((refine GO2 ?_ ?_) <;> intro h <;> (try (repeat (first | with_reducible (replace h := of_decide_eq_true h) | with_reducible (replace h := of_decide_eq_false h) | with_reducible (replace h := bnt h) | with_reducible (replace h := bnf h) | with_reducible (replace h := Int.not_lt.mp h) | with_reducible (replace h := Int.not_le.mp h) | with_reducible (replace h := band_dec h) | with_reducible (replace h := band_decF h) | with_reducible (replace h := bor_dec h) | with_reducible (replace h := bor_decF h)))) <;> (try (exfalso; first | contradiction | omega))) | fail)
    ((with_reducible apply At_retM Try.results15); (repeat (first | exact ResIs.nil | (apply ResIs.tmp; exact rfl) | (apply ResIs.cell; exact rfl; exact Lds.auto))); intro w' hw)
    exact ⟨rfl, hw.below0 rfl⟩
end
end Go.Proofs.Ytaonijdhmgcbjaa

namespace Go.Proofs.Ytaonijdhmgcbjaa
open Go.RowKit

set_option maxRecDepth 40000 in
theorem run_neq_bd (a b c a' b' c' : Int) (w : World) : (binOp .neq 43 (.agg #[.int .i64 a, .int .i64 b, .int .i64 c]) (.agg #[.int .i64 a', .int .i64 b', .int .i64 c'])).run Try.prog w = .ok (.bool (!(decide (a = a') && (decide (b = b') && decide (c = c'))))) w := by
  rw [run_neq_struct]
  go_simp
  repeat' split
  all_goals simp_all
set_option maxRecDepth 40000 in
theorem run_eql_bd (a b c a' b' c' : Int) (w : World) : (binOp .eql 43 (.agg #[.int .i64 a, .int .i64 b, .int .i64 c]) (.agg #[.int .i64 a', .int .i64 b', .int .i64 c'])).run Try.prog w = .ok (.bool (decide (a = a') && (decide (b = b') && decide (c = c')))) w := by
  rw [run_eql_struct]
  go_simp
  repeat' split
  all_goals simp_all
theorem run_eqGuard_bd (op : BinOp) (x y : Operand) (xs ys : Array Value) (w : World) : (eqGuard op 43 x y (.agg xs) (.agg ys)).run Try.prog w = .ok () w :=
  run_eqGuard_agg w op _ x y xs ys Try.eqGuardType43
section
variable {C : Ctx} {E : Slots} {S : List Ent} {ty ty3 : Nat} {x y : Operand} {a b c a' b' c' : Int}
theorem QS_neqBd (hx : evo E x = some (.agg #[.int .i64 a, .int .i64 b, .int .i64 c])) (hy : evo E y = some (.agg #[.int .i64 a', .int .i64 b', .int .i64 c'])) : QS Try.prog C E S (.binOp .neq 43 x y ty3) ty (.bool (!(decide (a = a') && (decide (b = b') && decide (c = c'))))) :=
  QS.of (fun f w ha _ => by
    have h2 := run_neq_bd a b c a' b' c' w
    have hg := run_eqGuard_bd .neq x y #[.int .i64 a, .int .i64 b, .int .i64 c] #[.int .i64 a', .int .i64 b', .int .i64 c'] w
    simp only [execOp, ha.evo hx, ha.evo hy, Sem.run_bind, hg, Result.andThen_ok, h2]
    simp)
theorem QS_eqlBd (hx : evo E x = some (.agg #[.int .i64 a, .int .i64 b, .int .i64 c])) (hy : evo E y = some (.agg #[.int .i64 a', .int .i64 b', .int .i64 c'])) : QS Try.prog C E S (.binOp .eql 43 x y ty3) ty (.bool (decide (a = a') && (decide (b = b') && decide (c = c')))) :=
  QS.of (fun f w ha _ => by
    have h2 := run_eql_bd a b c a' b' c' w
    have hg := run_eqGuard_bd .eql x y #[.int .i64 a, .int .i64 b, .int .i64 c] #[.int .i64 a', .int .i64 b', .int .i64 c'] w
    simp only [execOp, ha.evo hx, ha.evo hy, Sem.run_bind, hg, Result.andThen_ok, h2]
    rfl)
end
end Go.Proofs.Ytaonijdhmgcbjaa

namespace Go.Proofs.Ytaonijdhmgcbjaa
open Go.RowKit

def znqEqB (x y : Zon) : Bool := decide (x.value = y.value) && (decide (x.first = y.first) && (decide (x.last = y.last) && (decide (x.fwd = y.fwd))))
theorem znqEqB_eq (x y : Zon) : znqEqB x y = true ↔ x = y := by
  cases x; cases y
  simp [znqEqB]
theorem znqCells (v : Zon) : Zon.enc v = [.int .i64 v.value, .int .i64 v.first, .int .i64 v.last, .bool v.fwd] := rfl
set_option maxRecDepth 40000 in
theorem run_neq_znq (x y : Zon) (w : World) : (binOp .neq 50 (.agg (Zon.enc x).toArray) (.agg (Zon.enc y).toArray)).run Try.prog w = .ok (.bool (!znqEqB x y)) w := by
  obtain ⟨x1, x2, x3, x4⟩ := x
  obtain ⟨y1, y2, y3, y4⟩ := y
  rw [znqCells, znqCells, run_neq_struct]
  go_simp
  unfold znqEqB
  repeat' split
  all_goals simp_all
theorem run_eqGuard_znq (op : BinOp) (x y : Operand) (xs ys : Array Value) (w : World) : (eqGuard op 50 x y (.agg xs) (.agg ys)).run Try.prog w = .ok () w :=
  run_eqGuard_agg w op _ x y xs ys Try.eqGuardType50
section
variable {C : Ctx} {E : Slots} {S : List Ent} {ty ty3 : Nat} {x y : Operand} (u v : Zon)
theorem QS_neqZnq (hx : evo E x = some (.agg (Zon.enc u).toArray)) (hy : evo E y = some (.agg (Zon.enc v).toArray)) : QS Try.prog C E S (.binOp .neq 50 x y ty3) ty (.bool (!znqEqB u v)) :=
  QS.of (fun a w ha _ => by
    have h2 := run_neq_znq u v w
    have hg := run_eqGuard_znq .neq x y (Zon.enc u).toArray (Zon.enc v).toArray w
    simp only [execOp, ha.evo hx, ha.evo hy, Sem.run_bind, hg, Result.andThen_ok, h2]
    simp)
end
set_option maxRecDepth 100000 in
set_option maxHeartbeats 2000000 in
theorem equalZnq_any (A B : Option Addr) (c d : Nat) (l m : List Zon) (w : World) (hl : l.length ≤ 9223372036854775807) (hm : m.length ≤ 9223372036854775807) (hA : RdE Zon.enc 4 w A l) (hB : RdE Zon.enc 4 w B m) :
    Calls Try.prog 16 #[.slice A l.length c, .slice B m.length d] w fun e w' => e = .returned (.bool (decide (l = m))) ∧ Below w.heap.size w w' := by
  refine calls_T (S := []) [] Try.func16 rfl Try.ntmps16 (by simp) (Mem.nil _) ?_
  repeat' (first | ((first | with_reducible (first | apply TL_q | apply TD_q0 | apply TD_q1 | apply TD_q2 | apply TD_q3) | ((with_reducible (first | apply TD_q0y | apply TD_q1y)); exact rfl; exact rfl; (with_reducible exact rfl))); (first | exact QS.auto | ((with_reducible apply QS_neqZnq); exact rfl; exact rfl)); exact rfl) | (refine GO ?_) | (refine GOE ?_; (first | (rintro _ _ ⟨rfl, rfl⟩) | (rintro _ _ ⟨g, rfl, rfl⟩) | (rintro _ _ ⟨A', c', rfl, rfl⟩))) | ((refine GO2 ?_ ?_) <;> intro h <;> (try (repeat (first | with_reducible (replace h := of_decide_eq_true h) | with_reducible (replace h := of_decide_eq_false h) | with_reducible (replace h := bnt h) | with_reducible (replace h := bnf h) | with_reducible (replace h := Int.not_lt.mp h) | with_reducible (replace h := Int.not_le.mp h) | with_reducible (replace h := band_dec h) | with_reducible (replace h := band_decF h) | with_reducible (replace h := bor_dec h) | with_reducible (replace h := bor_decF h)))) <;> (try (exfalso; first | contradiction | omega))) | fail)
  · (refine At_ret Try.results16 rfl (fun w' hw => ?_))
    rw [decide_eq_false (fun e => by subst e; omega)]
    exact ⟨rfl, hw.below0 rfl⟩
  have hlen : l.length = m.length := by omega
  refine T_loop (X := Nat) (fun k => [(13, .int .i64 (k : Nat)), (12, .int .i64 l.length), (1, .slice B m.length d), (0, .slice A l.length c)])
    (fun _ => []) (fun k => k ≤ l.length ∧ Hid (∀ j, j < k → l[j]? = m[j]?)) (fun k => l.length - k) 0 ⟨by omega, Lib.hid (by omega)⟩ (by (repeat (first | exact SubE.nil _ | refine SubE.cons rfl ?_))) (by exact SUBS) ?_
  rintro k ⟨hk, hall⟩
  by_cases hlt : k < l.length
  · obtain ⟨b, o, rfl, hb0⟩ := RdE.open hA (by omega)
    obtain ⟨b2, o2, rfl, hb2⟩ := RdE.open hB (by omega)
    have hlt2 : k < m.length := by omega
    have hev := znqEqB_eq l[k] m[k]
    repeat' (first | ((first | with_reducible (first | apply TL_q | apply TD_q0 | apply TD_q1 | apply TD_q2 | apply TD_q3) | ((with_reducible (first | apply TD_q0y | apply TD_q1y)); exact rfl; exact rfl; (with_reducible exact rfl))); (first | exact QS.auto | ((with_reducible apply QS_neqZnq); exact rfl; exact rfl)); exact rfl) | (refine GG ?_) | (refine GE ?_; (first | (rintro _ _ ⟨rfl, rfl⟩) | (rintro _ _ ⟨g, rfl, rfl⟩) | (rintro _ _ ⟨A', c', rfl, rfl⟩)); (try refine ⟨SUB, ?_⟩)) | ((refine GO2 ?_ ?_) <;> intro h <;> (try (repeat (first | with_reducible (replace h := of_decide_eq_true h) | with_reducible (replace h := of_decide_eq_false h) | with_reducible (replace h := bnt h) | with_reducible (replace h := bnf h) | with_reducible (replace h := Int.not_lt.mp h) | with_reducible (replace h := Int.not_le.mp h) | with_reducible (replace h := band_dec h) | with_reducible (replace h := band_decF h) | with_reducible (replace h := bor_dec h) | with_reducible (replace h := bor_decF h)))) <;> (try (exfalso; first | contradiction | omega))) | (refine GOF ?_ ?_) | ((with_reducible apply T_draw (id := 6) 1000 (OT.seq [(0, 0), (0, 1), (0, 2), (0, 4), (0, 5), (0, 6), (1, 3), (1, 7), (0, 8)] .nil)); kernel_rfl; exact rfl; kernel_rfl; (repeat (first | with_reducible exact Blind.body | with_reducible apply Blind.seq | with_reducible apply Blind.block))) | fail)
    · (refine At_ret Try.results16 rfl (fun w' hw => ?_))
      have hne : ¬ l[k] = m[k] := fun e => by
        have h1 : znqEqB l[k] m[k] = false := by assumption
        rw [hev.2 e] at h1; cases h1
      rw [decide_eq_false (fun e => hne (by subst e; rfl))]
      exact ⟨rfl, hw.below0 rfl⟩
    · have he : l[k] = m[k] := hev.1 (by assumption)
      (refine At_rounds (k + 1) ?_ ?_ ?_ ?_; (exact ⟨by show k + 1 ≤ l.length; omega, Lib.hid (fun j hj => by
        by_cases e : j = k
        · subst e; rw [List.getElem?_eq_getElem hlt, List.getElem?_eq_getElem hlt2, he]
        · exact hall.out j (by omega))⟩); (omega); ((repeat (first | exact SubE.nil _ | refine SubE.cons rfl ?_))); (exact SUBS))
  · obtain rfl : k = l.length := by omega
    repeat' (first | ((first | with_reducible (first | apply TL_q | apply TD_q0 | apply TD_q1 | apply TD_q2 | apply TD_q3) | ((with_reducible (first | apply TD_q0y | apply TD_q1y)); exact rfl; exact rfl; (with_reducible exact rfl))); (first | exact QS.auto | ((with_reducible apply QS_neqZnq); exact rfl; exact rfl)); exact rfl) | (refine GO ?_) | (refine GOE ?_; (first | (rintro _ _ ⟨rfl, rfl⟩) | (rintro _ _ ⟨g, rfl, rfl⟩) | (rintro _ _ ⟨A', c', rfl, rfl⟩))) | ((refine GO2 ?_ ?_) <;> intro h <;> (try (repeat (first | with_reducible (replace h := of_decide_eq_true h) | with_reducible (replace h := of_decide_eq_false h) | with_reducible (replace h := bnt h) | with_reducible (replace h := bnf h) | with_reducible (replace h := Int.not_lt.mp h) | with_reducible (replace h := Int.not_le.mp h) | with_reducible (replace h := band_dec h) | with_reducible (replace h := band_decF h) | with_reducible (replace h := bor_dec h) | with_reducible (replace h := bor_decF h)))) <;> (try (exfalso; first | contradiction | omega))) | fail)
    (refine At_ret Try.results16 rfl (fun w' hw => ?_))
    have he : l = m := by
      apply List.ext_getElem?
      intro j
      by_cases hj : j < l.length
      · exact hall.out j hj
      · rw [List.getElem?_eq_none (by omega), List.getElem?_eq_none (by omega)]
    rw [decide_eq_true he]
    exact ⟨rfl, hw.below0 rfl⟩
end Go.Proofs.Ytaonijdhmgcbjaa
