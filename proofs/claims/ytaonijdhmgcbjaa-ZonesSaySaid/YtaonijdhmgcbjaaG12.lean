/- Lemmas for the walks (Zn5). No condition. -/
import Derived.Test.YtaonijdhmgcbjaaG11
set_option linter.unusedSimpArgs false
set_option linter.unusedVariables false
set_option linter.unusedSectionVars false
set_option linter.unnecessarySimpa false
namespace Go.Proofs.Ytaonijdhmgcbjaa
open Go.RowKit
set_option linter.unusedSectionVars false

section
variable (A : Option Addr) (c : Nat) (cs : List Cl) (w : World) (hl : cs.length ≤ 200) (hA : RdCl w A cs)
include hl hA
set_option maxRecDepth 100000 in
set_option maxHeartbeats 8000000 in
theorem zoneOf_none (v : Int) (hv : ¬ v = 0) (h0 : wrBy cs v = -1) : Calls Try.prog 14 #[.slice A cs.length c, .int .i64 v] w fun e w' => e = .returned (.tuple #[.agg (Zon.enc (zonD cs v)).toArray, .bool (okD cs v)]) ∧ Below w.heap.size w w' := by
  have hwo := fun w h => writeOf_any A c cs w hl h v
  rw [h0, if_pos (by decide), decide_eq_false (by decide)] at hwo
  obtain ⟨Z0, hZ0⟩ : ∃ Z, Z = begD cs v := ⟨_, rfl⟩
  have hZ1 : Z0 = ⟨200, -1, false⟩ := by rw [hZ0]; unfold begD; rw [if_neg hv, if_pos (by omega)]
  refine calls_T (S := []) [] Try.func14 rfl Try.ntmps14 (by simp) (Mem.nil _) ?_
  repeat' (first | (refine GO ?_) | (refine GOE ?_; (first | (rintro _ _ ⟨rfl, rfl⟩) | (rintro _ _ ⟨g, rfl, rfl⟩) | (rintro _ _ ⟨A', c', rfl, rfl⟩))) | ((refine GO2 ?_ ?_) <;> intro h <;> (try (repeat (first | with_reducible (replace h := of_decide_eq_true h) | with_reducible (replace h := of_decide_eq_false h) | with_reducible (replace h := bnt h) | with_reducible (replace h := bnf h) | with_reducible (replace h := Int.not_lt.mp h) | with_reducible (replace h := Int.not_le.mp h) | with_reducible (replace h := band_dec h) | with_reducible (replace h := band_decF h) | with_reducible (replace h := bor_dec h) | with_reducible (replace h := bor_decF h)))) <;> (try (exfalso; first | contradiction | omega))) | ((with_reducible (first | apply TD_e2z | apply TD_e3z | apply TL_e | apply TD_e2 | apply TD_e3)); ((with_reducible apply ES_callV (f := 38)); exact rfl; (intro w hw; exact hwo w (hw.rd rfl hA)); exact rfl); (first | exact rfl | exact ⟨rfl, rfl, rfl⟩); (rintro _ _ ⟨rfl, rfl⟩); (try refine ⟨SUB, ?_⟩)) | fail)
  all_goals first | (exfalso; omega) | skip
  obtain ⟨gz, rfl⟩ : ∃ x, x = g := ⟨_, rfl⟩
  obtain ⟨g4, rfl⟩ : ∃ x, x = g := ⟨_, rfl⟩
  (refine T_loop (X := Nat × Nat) (fun x => [(45, .int .i64 (x.1 : Nat)), (44, .int .i64 cs.length), (7, .int .i64 (x.2 : Nat)), (9, .bool false), (10, .bool false), (43, .slice A cs.length c), (1, .int .i64 v), (6, .pointer (some ⟨gz, 0, none⟩)), (4, .pointer (some ⟨g4, 0, none⟩))]) (fun x => [entBlk gz 50 #[.int .i64 v, .int .i64 (zoneK cs v Z0 x.1).zf, .int .i64 (zoneK cs v Z0 x.1).zl, .bool false], entBlk g4 50 #[.int .i64 0, .int .i64 0, .int .i64 0, .bool false]]) (fun x => x.1 ≤ cs.length ∧ x.2 ≤ x.1 ∧ (zoneK cs v Z0 x.1).some_ = (Z0.some_ || decide (0 < x.2))) (fun x => cs.length - x.1) (0, 0) ⟨by (try dsimp only); omega, by (try dsimp only); omega, by simp [zoneK]⟩ (by (try dsimp only); (repeat (first | exact SubE.nil _ | refine SubE.cons rfl ?_))) (fun w' hw => by (try dsimp only); rw [show zoneK cs v Z0 0 = Z0 from rfl, hZ1]; exact hw.sel (by (repeat (first | exact Sel.nil _ | (apply Sel.cons; (repeat (first | with_reducible exact Pick.here _ _ | with_reducible apply Pick.there))))))) ?_)
  rintro ⟨k, r⟩ ⟨hk, hrk, hsm⟩
  dsimp only at hk hrk hsm ⊢
  by_cases hkl : k < cs.length
  · obtain ⟨b, o, rfl, _⟩ := RdE.open hA (by omega)
    have hck := clK_eq hkl
    have hz1 : zoneK cs v Z0 (k + 1) = readZ cs v (zoneK cs v Z0 k) k := rfl
    have hr1 : isRd cs v k = (decide (cs[k].kind = 2) && (decide (cs[k].to ≠ -1) && decide (cs[k].res = v))) := by unfold isRd; rw [hck]
    by_cases hrd : cs[k].kind = 2 ∧ cs[k].to ≠ -1 ∧ cs[k].res = v
    · obtain ⟨q1, q2, q3⟩ := hrd
      rw [readZ_yes (by rw [hr1, decide_eq_true q1, decide_eq_true q2, decide_eq_true q3]; rfl), hck] at hz1
      have hr2 : (((r + 1 : Nat) : Int)) = ((r : Nat) : Int) + 1 := by omega
      generalize zoneK cs v Z0 k = Z at *
      repeat' (first | (refine GO ?_) | (refine GOE ?_; (first | (rintro _ _ ⟨rfl, rfl⟩) | (rintro _ _ ⟨g, rfl, rfl⟩) | (rintro _ _ ⟨A', c', rfl, rfl⟩))) | ((refine GO2 ?_ ?_) <;> intro h <;> (try (repeat (first | with_reducible (replace h := of_decide_eq_true h) | with_reducible (replace h := of_decide_eq_false h) | with_reducible (replace h := bnt h) | with_reducible (replace h := bnf h) | with_reducible (replace h := Int.not_lt.mp h) | with_reducible (replace h := Int.not_le.mp h) | with_reducible (replace h := band_dec h) | with_reducible (replace h := band_decF h) | with_reducible (replace h := bor_dec h) | with_reducible (replace h := bor_decF h)))) <;> (try (exfalso; first | contradiction | omega))) | fail)
      all_goals
        apply At_rounds (k + 1, r + 1)
        case hE => (try dsimp only); (repeat (first | exact SubE.nil _ | refine SubE.cons rfl ?_))
        case hS => (try dsimp only); rw [hz1]; (try dsimp only); (first | rw [if_pos (by omega)] | rw [if_neg (by omega)]); (first | rw [if_pos (by omega)] | rw [if_neg (by omega)]); exact fun w' hw => hw.sel (by (repeat (first | exact Sel.nil _ | (apply Sel.cons; (repeat (first | with_reducible exact Pick.here _ _ | with_reducible apply Pick.there))))))
        case hμ => (try dsimp only); omega
        case hp => exact ⟨hkl, by (try dsimp only); omega, by (try dsimp only); rw [hz1]; simp⟩
    · rw [readZ_no (by
        rw [hr1, Bool.eq_false_iff]
        intro e
        simp only [Bool.and_eq_true, decide_eq_true_eq] at e
        exact hrd ⟨e.1, e.2.1, e.2.2⟩)] at hz1
      generalize zoneK cs v Z0 k = Z at *
      by_cases q1 : cs[k].kind = 2
      · by_cases q2 : cs[k].to = -1
        · repeat' (first | (refine GO ?_) | (refine GOE ?_; (first | (rintro _ _ ⟨rfl, rfl⟩) | (rintro _ _ ⟨g, rfl, rfl⟩) | (rintro _ _ ⟨A', c', rfl, rfl⟩))) | ((refine GO2 ?_ ?_) <;> intro h <;> (try (repeat (first | with_reducible (replace h := of_decide_eq_true h) | with_reducible (replace h := of_decide_eq_false h) | with_reducible (replace h := bnt h) | with_reducible (replace h := bnf h) | with_reducible (replace h := Int.not_lt.mp h) | with_reducible (replace h := Int.not_le.mp h) | with_reducible (replace h := band_dec h) | with_reducible (replace h := band_decF h) | with_reducible (replace h := bor_dec h) | with_reducible (replace h := bor_decF h)))) <;> (try (exfalso; first | contradiction | omega))) | fail)
          all_goals
            apply At_rounds (k + 1, r)
            case hE => (try dsimp only); (repeat (first | exact SubE.nil _ | refine SubE.cons rfl ?_))
            case hS => (try dsimp only); rw [hz1]; exact fun w' hw => hw.sel (by (repeat (first | exact Sel.nil _ | (apply Sel.cons; (repeat (first | with_reducible exact Pick.here _ _ | with_reducible apply Pick.there))))))
            case hμ => (try dsimp only); omega
            case hp => exact ⟨hkl, by (try dsimp only); omega, by (try dsimp only); rw [hz1]; exact hsm⟩
        · have q3 : ¬ cs[k].res = v := fun e => hrd ⟨q1, q2, e⟩
          repeat' (first | (refine GO ?_) | (refine GOE ?_; (first | (rintro _ _ ⟨rfl, rfl⟩) | (rintro _ _ ⟨g, rfl, rfl⟩) | (rintro _ _ ⟨A', c', rfl, rfl⟩))) | ((refine GO2 ?_ ?_) <;> intro h <;> (try (repeat (first | with_reducible (replace h := of_decide_eq_true h) | with_reducible (replace h := of_decide_eq_false h) | with_reducible (replace h := bnt h) | with_reducible (replace h := bnf h) | with_reducible (replace h := Int.not_lt.mp h) | with_reducible (replace h := Int.not_le.mp h) | with_reducible (replace h := band_dec h) | with_reducible (replace h := band_decF h) | with_reducible (replace h := bor_dec h) | with_reducible (replace h := bor_decF h)))) <;> (try (exfalso; first | contradiction | omega))) | fail)
          all_goals
            apply At_rounds (k + 1, r)
            case hE => (try dsimp only); (repeat (first | exact SubE.nil _ | refine SubE.cons rfl ?_))
            case hS => (try dsimp only); rw [hz1]; exact fun w' hw => hw.sel (by (repeat (first | exact Sel.nil _ | (apply Sel.cons; (repeat (first | with_reducible exact Pick.here _ _ | with_reducible apply Pick.there))))))
            case hμ => (try dsimp only); omega
            case hp => exact ⟨hkl, by (try dsimp only); omega, by (try dsimp only); rw [hz1]; exact hsm⟩
      · repeat' (first | (refine GO ?_) | (refine GOE ?_; (first | (rintro _ _ ⟨rfl, rfl⟩) | (rintro _ _ ⟨g, rfl, rfl⟩) | (rintro _ _ ⟨A', c', rfl, rfl⟩))) | ((refine GO2 ?_ ?_) <;> intro h <;> (try (repeat (first | with_reducible (replace h := of_decide_eq_true h) | with_reducible (replace h := of_decide_eq_false h) | with_reducible (replace h := bnt h) | with_reducible (replace h := bnf h) | with_reducible (replace h := Int.not_lt.mp h) | with_reducible (replace h := Int.not_le.mp h) | with_reducible (replace h := band_dec h) | with_reducible (replace h := band_decF h) | with_reducible (replace h := bor_dec h) | with_reducible (replace h := bor_decF h)))) <;> (try (exfalso; first | contradiction | omega))) | fail)
        all_goals
          apply At_rounds (k + 1, r)
          case hE => (try dsimp only); (repeat (first | exact SubE.nil _ | refine SubE.cons rfl ?_))
          case hS => (try dsimp only); rw [hz1]; exact fun w' hw => hw.sel (by (repeat (first | exact Sel.nil _ | (apply Sel.cons; (repeat (first | with_reducible exact Pick.here _ _ | with_reducible apply Pick.there))))))
          case hμ => (try dsimp only); omega
          case hp => exact ⟨hkl, by (try dsimp only); omega, by (try dsimp only); rw [hz1]; exact hsm⟩
  · obtain rfl : k = cs.length := by omega
    have hend : endD cs v = zoneK cs v Z0 cs.length := by unfold endD; rw [hZ0]
    unfold zonD okD
    rw [hend, hsm]
    generalize zoneK cs v Z0 cs.length = Z at *
    by_cases hr0 : 0 < r
    · have hr3 : (0 : Int) < ((r : Nat) : Int) := by omega
      repeat' (first | (refine GO ?_) | (refine GOE ?_; (first | (rintro _ _ ⟨rfl, rfl⟩) | (rintro _ _ ⟨g, rfl, rfl⟩) | (rintro _ _ ⟨A', c', rfl, rfl⟩))) | ((refine GO2 ?_ ?_) <;> intro h <;> (try (repeat (first | with_reducible (replace h := of_decide_eq_true h) | with_reducible (replace h := of_decide_eq_false h) | with_reducible (replace h := bnt h) | with_reducible (replace h := bnf h) | with_reducible (replace h := Int.not_lt.mp h) | with_reducible (replace h := Int.not_le.mp h) | with_reducible (replace h := band_dec h) | with_reducible (replace h := band_decF h) | with_reducible (replace h := bor_dec h) | with_reducible (replace h := bor_decF h)))) <;> (try (exfalso; first | contradiction | omega))) | fail)
      all_goals (((with_reducible apply At_retM Try.results14); (repeat (first | exact ResIs.nil | (apply ResIs.tmp; exact rfl) | (apply ResIs.cell; exact rfl; exact Lds.auto))); intro w' hw); exact ⟨by simp [resVal, Zon.enc_mk, hZ1, hr3, *], hw.below0 rfl⟩)
    · obtain rfl : r = 0 := by omega
      have hr3 : ¬ (0 : Int) < ((0 : Nat) : Int) := by omega
      repeat' (first | (refine GO ?_) | (refine GOE ?_; (first | (rintro _ _ ⟨rfl, rfl⟩) | (rintro _ _ ⟨g, rfl, rfl⟩) | (rintro _ _ ⟨A', c', rfl, rfl⟩))) | ((refine GO2 ?_ ?_) <;> intro h <;> (try (repeat (first | with_reducible (replace h := of_decide_eq_true h) | with_reducible (replace h := of_decide_eq_false h) | with_reducible (replace h := bnt h) | with_reducible (replace h := bnf h) | with_reducible (replace h := Int.not_lt.mp h) | with_reducible (replace h := Int.not_le.mp h) | with_reducible (replace h := band_dec h) | with_reducible (replace h := band_decF h) | with_reducible (replace h := bor_dec h) | with_reducible (replace h := bor_decF h)))) <;> (try (exfalso; first | contradiction | omega))) | fail)
      all_goals (((with_reducible apply At_retM Try.results14); (repeat (first | exact ResIs.nil | (apply ResIs.tmp; exact rfl) | (apply ResIs.cell; exact rfl; exact Lds.auto))); intro w' hw); exact ⟨by simp [resVal, Zon.enc_mk, hZ1, hr3, *], hw.below0 rfl⟩)
set_option maxRecDepth 100000 in
set_option maxHeartbeats 8000000 in
theorem zoneOf_open (v : Int) (hv : ¬ v = 0) (q : Nat) (h0 : wrBy cs v = (q : Nat)) (hq : q < cs.length) (ht : cs[q].to = -1) : Calls Try.prog 14 #[.slice A cs.length c, .int .i64 v] w fun e w' => e = .returned (.tuple #[.agg (Zon.enc (zonD cs v)).toArray, .bool (okD cs v)]) ∧ Below w.heap.size w w' := by
  have hwo := fun w h => writeOf_any A c cs w hl h v
  rw [h0, if_neg (by omega), decide_eq_true (by omega)] at hwo
  obtain ⟨bq, oq, rfl, _⟩ := RdE.open hA (by omega)
  have hcq := clK_eq hq
  obtain ⟨Z0, hZ0⟩ : ∃ Z, Z = begD cs v := ⟨_, rfl⟩
  have hZ1 : Z0 = ⟨200, cs[q].from_, false⟩ := by rw [hZ0]; unfold begD begZ; rw [if_neg hv, if_neg (by omega), if_neg hv, h0, Int.toNat_natCast, hcq, if_pos ht, ht]; rfl
  refine calls_T (S := []) [] Try.func14 rfl Try.ntmps14 (by simp) (Mem.nil _) ?_
  repeat' (first | (refine GO ?_) | (refine GOE ?_; (first | (rintro _ _ ⟨rfl, rfl⟩) | (rintro _ _ ⟨g, rfl, rfl⟩) | (rintro _ _ ⟨A', c', rfl, rfl⟩))) | ((refine GO2 ?_ ?_) <;> intro h <;> (try (repeat (first | with_reducible (replace h := of_decide_eq_true h) | with_reducible (replace h := of_decide_eq_false h) | with_reducible (replace h := bnt h) | with_reducible (replace h := bnf h) | with_reducible (replace h := Int.not_lt.mp h) | with_reducible (replace h := Int.not_le.mp h) | with_reducible (replace h := band_dec h) | with_reducible (replace h := band_decF h) | with_reducible (replace h := bor_dec h) | with_reducible (replace h := bor_decF h)))) <;> (try (exfalso; first | contradiction | omega))) | ((with_reducible (first | apply TD_e2z | apply TD_e3z | apply TL_e | apply TD_e2 | apply TD_e3)); ((with_reducible apply ES_callV (f := 38)); exact rfl; (intro w hw; exact hwo w (hw.rd rfl hA)); exact rfl); (first | exact rfl | exact ⟨rfl, rfl, rfl⟩); (rintro _ _ ⟨rfl, rfl⟩); (try refine ⟨SUB, ?_⟩)) | fail)
  all_goals first | (exfalso; omega) | skip
  obtain ⟨gz, rfl⟩ : ∃ x, x = g := ⟨_, rfl⟩
  obtain ⟨g4, rfl⟩ : ∃ x, x = g := ⟨_, rfl⟩
  (refine T_loop (X := Nat × Nat) (fun x => [(45, .int .i64 (x.1 : Nat)), (44, .int .i64 cs.length), (7, .int .i64 (x.2 : Nat)), (9, .bool true), (10, .bool false), (43, .slice (some ⟨bq, oq, none⟩) cs.length c), (1, .int .i64 v), (6, .pointer (some ⟨gz, 0, none⟩)), (4, .pointer (some ⟨g4, 0, none⟩))]) (fun x => [entBlk gz 50 #[.int .i64 v, .int .i64 (zoneK cs v Z0 x.1).zf, .int .i64 (zoneK cs v Z0 x.1).zl, .bool false], entBlk g4 50 #[.int .i64 0, .int .i64 0, .int .i64 0, .bool false]]) (fun x => x.1 ≤ cs.length ∧ x.2 ≤ x.1 ∧ (zoneK cs v Z0 x.1).some_ = (Z0.some_ || decide (0 < x.2))) (fun x => cs.length - x.1) (0, 0) ⟨by (try dsimp only); omega, by (try dsimp only); omega, by simp [zoneK]⟩ (by (try dsimp only); (repeat (first | exact SubE.nil _ | refine SubE.cons rfl ?_))) (fun w' hw => by (try dsimp only); rw [show zoneK cs v Z0 0 = Z0 from rfl, hZ1]; exact hw.sel (by (repeat (first | exact Sel.nil _ | (apply Sel.cons; (repeat (first | with_reducible exact Pick.here _ _ | with_reducible apply Pick.there))))))) ?_)
  rintro ⟨k, r⟩ ⟨hk, hrk, hsm⟩
  dsimp only at hk hrk hsm ⊢
  by_cases hkl : k < cs.length
  · have hck := clK_eq hkl
    have hz1 : zoneK cs v Z0 (k + 1) = readZ cs v (zoneK cs v Z0 k) k := rfl
    have hr1 : isRd cs v k = (decide (cs[k].kind = 2) && (decide (cs[k].to ≠ -1) && decide (cs[k].res = v))) := by unfold isRd; rw [hck]
    by_cases hrd : cs[k].kind = 2 ∧ cs[k].to ≠ -1 ∧ cs[k].res = v
    · obtain ⟨q1, q2, q3⟩ := hrd
      rw [readZ_yes (by rw [hr1, decide_eq_true q1, decide_eq_true q2, decide_eq_true q3]; rfl), hck] at hz1
      have hr2 : (((r + 1 : Nat) : Int)) = ((r : Nat) : Int) + 1 := by omega
      generalize zoneK cs v Z0 k = Z at *
      repeat' (first | (refine GO ?_) | (refine GOE ?_; (first | (rintro _ _ ⟨rfl, rfl⟩) | (rintro _ _ ⟨g, rfl, rfl⟩) | (rintro _ _ ⟨A', c', rfl, rfl⟩))) | ((refine GO2 ?_ ?_) <;> intro h <;> (try (repeat (first | with_reducible (replace h := of_decide_eq_true h) | with_reducible (replace h := of_decide_eq_false h) | with_reducible (replace h := bnt h) | with_reducible (replace h := bnf h) | with_reducible (replace h := Int.not_lt.mp h) | with_reducible (replace h := Int.not_le.mp h) | with_reducible (replace h := band_dec h) | with_reducible (replace h := band_decF h) | with_reducible (replace h := bor_dec h) | with_reducible (replace h := bor_decF h)))) <;> (try (exfalso; first | contradiction | omega))) | fail)
      all_goals
        apply At_rounds (k + 1, r + 1)
        case hE => (try dsimp only); (repeat (first | exact SubE.nil _ | refine SubE.cons rfl ?_))
        case hS => (try dsimp only); rw [hz1]; (try dsimp only); (first | rw [if_pos (by omega)] | rw [if_neg (by omega)]); (first | rw [if_pos (by omega)] | rw [if_neg (by omega)]); exact fun w' hw => hw.sel (by (repeat (first | exact Sel.nil _ | (apply Sel.cons; (repeat (first | with_reducible exact Pick.here _ _ | with_reducible apply Pick.there))))))
        case hμ => (try dsimp only); omega
        case hp => exact ⟨hkl, by (try dsimp only); omega, by (try dsimp only); rw [hz1]; simp⟩
    · rw [readZ_no (by
        rw [hr1, Bool.eq_false_iff]
        intro e
        simp only [Bool.and_eq_true, decide_eq_true_eq] at e
        exact hrd ⟨e.1, e.2.1, e.2.2⟩)] at hz1
      generalize zoneK cs v Z0 k = Z at *
      by_cases q1 : cs[k].kind = 2
      · by_cases q2 : cs[k].to = -1
        · repeat' (first | (refine GO ?_) | (refine GOE ?_; (first | (rintro _ _ ⟨rfl, rfl⟩) | (rintro _ _ ⟨g, rfl, rfl⟩) | (rintro _ _ ⟨A', c', rfl, rfl⟩))) | ((refine GO2 ?_ ?_) <;> intro h <;> (try (repeat (first | with_reducible (replace h := of_decide_eq_true h) | with_reducible (replace h := of_decide_eq_false h) | with_reducible (replace h := bnt h) | with_reducible (replace h := bnf h) | with_reducible (replace h := Int.not_lt.mp h) | with_reducible (replace h := Int.not_le.mp h) | with_reducible (replace h := band_dec h) | with_reducible (replace h := band_decF h) | with_reducible (replace h := bor_dec h) | with_reducible (replace h := bor_decF h)))) <;> (try (exfalso; first | contradiction | omega))) | fail)
          all_goals
            apply At_rounds (k + 1, r)
            case hE => (try dsimp only); (repeat (first | exact SubE.nil _ | refine SubE.cons rfl ?_))
            case hS => (try dsimp only); rw [hz1]; exact fun w' hw => hw.sel (by (repeat (first | exact Sel.nil _ | (apply Sel.cons; (repeat (first | with_reducible exact Pick.here _ _ | with_reducible apply Pick.there))))))
            case hμ => (try dsimp only); omega
            case hp => exact ⟨hkl, by (try dsimp only); omega, by (try dsimp only); rw [hz1]; exact hsm⟩
        · have q3 : ¬ cs[k].res = v := fun e => hrd ⟨q1, q2, e⟩
          repeat' (first | (refine GO ?_) | (refine GOE ?_; (first | (rintro _ _ ⟨rfl, rfl⟩) | (rintro _ _ ⟨g, rfl, rfl⟩) | (rintro _ _ ⟨A', c', rfl, rfl⟩))) | ((refine GO2 ?_ ?_) <;> intro h <;> (try (repeat (first | with_reducible (replace h := of_decide_eq_true h) | with_reducible (replace h := of_decide_eq_false h) | with_reducible (replace h := bnt h) | with_reducible (replace h := bnf h) | with_reducible (replace h := Int.not_lt.mp h) | with_reducible (replace h := Int.not_le.mp h) | with_reducible (replace h := band_dec h) | with_reducible (replace h := band_decF h) | with_reducible (replace h := bor_dec h) | with_reducible (replace h := bor_decF h)))) <;> (try (exfalso; first | contradiction | omega))) | fail)
          all_goals
            apply At_rounds (k + 1, r)
            case hE => (try dsimp only); (repeat (first | exact SubE.nil _ | refine SubE.cons rfl ?_))
            case hS => (try dsimp only); rw [hz1]; exact fun w' hw => hw.sel (by (repeat (first | exact Sel.nil _ | (apply Sel.cons; (repeat (first | with_reducible exact Pick.here _ _ | with_reducible apply Pick.there))))))
            case hμ => (try dsimp only); omega
            case hp => exact ⟨hkl, by (try dsimp only); omega, by (try dsimp only); rw [hz1]; exact hsm⟩
      · repeat' (first | (refine GO ?_) | (refine GOE ?_; (first | (rintro _ _ ⟨rfl, rfl⟩) | (rintro _ _ ⟨g, rfl, rfl⟩) | (rintro _ _ ⟨A', c', rfl, rfl⟩))) | ((refine GO2 ?_ ?_) <;> intro h <;> (try (repeat (first | with_reducible (replace h := of_decide_eq_true h) | with_reducible (replace h := of_decide_eq_false h) | with_reducible (replace h := bnt h) | with_reducible (replace h := bnf h) | with_reducible (replace h := Int.not_lt.mp h) | with_reducible (replace h := Int.not_le.mp h) | with_reducible (replace h := band_dec h) | with_reducible (replace h := band_decF h) | with_reducible (replace h := bor_dec h) | with_reducible (replace h := bor_decF h)))) <;> (try (exfalso; first | contradiction | omega))) | fail)
        all_goals
          apply At_rounds (k + 1, r)
          case hE => (try dsimp only); (repeat (first | exact SubE.nil _ | refine SubE.cons rfl ?_))
          case hS => (try dsimp only); rw [hz1]; exact fun w' hw => hw.sel (by (repeat (first | exact Sel.nil _ | (apply Sel.cons; (repeat (first | with_reducible exact Pick.here _ _ | with_reducible apply Pick.there))))))
          case hμ => (try dsimp only); omega
          case hp => exact ⟨hkl, by (try dsimp only); omega, by (try dsimp only); rw [hz1]; exact hsm⟩
  · obtain rfl : k = cs.length := by omega
    have hend : endD cs v = zoneK cs v Z0 cs.length := by unfold endD; rw [hZ0]
    unfold zonD okD
    rw [hend, hsm]
    generalize zoneK cs v Z0 cs.length = Z at *
    by_cases hr0 : 0 < r
    · have hr3 : (0 : Int) < ((r : Nat) : Int) := by omega
      repeat' (first | (refine GO ?_) | (refine GOE ?_; (first | (rintro _ _ ⟨rfl, rfl⟩) | (rintro _ _ ⟨g, rfl, rfl⟩) | (rintro _ _ ⟨A', c', rfl, rfl⟩))) | ((refine GO2 ?_ ?_) <;> intro h <;> (try (repeat (first | with_reducible (replace h := of_decide_eq_true h) | with_reducible (replace h := of_decide_eq_false h) | with_reducible (replace h := bnt h) | with_reducible (replace h := bnf h) | with_reducible (replace h := Int.not_lt.mp h) | with_reducible (replace h := Int.not_le.mp h) | with_reducible (replace h := band_dec h) | with_reducible (replace h := band_decF h) | with_reducible (replace h := bor_dec h) | with_reducible (replace h := bor_decF h)))) <;> (try (exfalso; first | contradiction | omega))) | fail)
      all_goals (((with_reducible apply At_retM Try.results14); (repeat (first | exact ResIs.nil | (apply ResIs.tmp; exact rfl) | (apply ResIs.cell; exact rfl; exact Lds.auto))); intro w' hw); exact ⟨by simp [resVal, Zon.enc_mk, hZ1, hr3, *], hw.below0 rfl⟩)
    · obtain rfl : r = 0 := by omega
      have hr3 : ¬ (0 : Int) < ((0 : Nat) : Int) := by omega
      repeat' (first | (refine GO ?_) | (refine GOE ?_; (first | (rintro _ _ ⟨rfl, rfl⟩) | (rintro _ _ ⟨g, rfl, rfl⟩) | (rintro _ _ ⟨A', c', rfl, rfl⟩))) | ((refine GO2 ?_ ?_) <;> intro h <;> (try (repeat (first | with_reducible (replace h := of_decide_eq_true h) | with_reducible (replace h := of_decide_eq_false h) | with_reducible (replace h := bnt h) | with_reducible (replace h := bnf h) | with_reducible (replace h := Int.not_lt.mp h) | with_reducible (replace h := Int.not_le.mp h) | with_reducible (replace h := band_dec h) | with_reducible (replace h := band_decF h) | with_reducible (replace h := bor_dec h) | with_reducible (replace h := bor_decF h)))) <;> (try (exfalso; first | contradiction | omega))) | fail)
      all_goals (((with_reducible apply At_retM Try.results14); (repeat (first | exact ResIs.nil | (apply ResIs.tmp; exact rfl) | (apply ResIs.cell; exact rfl; exact Lds.auto))); intro w' hw); exact ⟨by simp [resVal, Zon.enc_mk, hZ1, hr3, *], hw.below0 rfl⟩)
set_option maxRecDepth 100000 in
set_option maxHeartbeats 8000000 in
theorem zoneOf_done (v : Int) (hv : ¬ v = 0) (q : Nat) (h0 : wrBy cs v = (q : Nat)) (hq : q < cs.length) (ht : ¬ cs[q].to = -1) : Calls Try.prog 14 #[.slice A cs.length c, .int .i64 v] w fun e w' => e = .returned (.tuple #[.agg (Zon.enc (zonD cs v)).toArray, .bool (okD cs v)]) ∧ Below w.heap.size w w' := by
  have hwo := fun w h => writeOf_any A c cs w hl h v
  rw [h0, if_neg (by omega), decide_eq_true (by omega)] at hwo
  obtain ⟨bq, oq, rfl, _⟩ := RdE.open hA (by omega)
  have hcq := clK_eq hq
  obtain ⟨Z0, hZ0⟩ : ∃ Z, Z = begD cs v := ⟨_, rfl⟩
  have hZ1 : Z0 = ⟨cs[q].to, cs[q].from_, true⟩ := by rw [hZ0]; unfold begD begZ; rw [if_neg hv, if_neg (by omega), if_neg hv, h0, Int.toNat_natCast, hcq, if_neg ht, decide_eq_true ht]
  refine calls_T (S := []) [] Try.func14 rfl Try.ntmps14 (by simp) (Mem.nil _) ?_
  repeat' (first | (refine GO ?_) | (refine GOE ?_; (first | (rintro _ _ ⟨rfl, rfl⟩) | (rintro _ _ ⟨g, rfl, rfl⟩) | (rintro _ _ ⟨A', c', rfl, rfl⟩))) | ((refine GO2 ?_ ?_) <;> intro h <;> (try (repeat (first | with_reducible (replace h := of_decide_eq_true h) | with_reducible (replace h := of_decide_eq_false h) | with_reducible (replace h := bnt h) | with_reducible (replace h := bnf h) | with_reducible (replace h := Int.not_lt.mp h) | with_reducible (replace h := Int.not_le.mp h) | with_reducible (replace h := band_dec h) | with_reducible (replace h := band_decF h) | with_reducible (replace h := bor_dec h) | with_reducible (replace h := bor_decF h)))) <;> (try (exfalso; first | contradiction | omega))) | ((with_reducible (first | apply TD_e2z | apply TD_e3z | apply TL_e | apply TD_e2 | apply TD_e3)); ((with_reducible apply ES_callV (f := 38)); exact rfl; (intro w hw; exact hwo w (hw.rd rfl hA)); exact rfl); (first | exact rfl | exact ⟨rfl, rfl, rfl⟩); (rintro _ _ ⟨rfl, rfl⟩); (try refine ⟨SUB, ?_⟩)) | fail)
  all_goals first | (exfalso; omega) | skip
  obtain ⟨gz, rfl⟩ : ∃ x, x = g := ⟨_, rfl⟩
  obtain ⟨g4, rfl⟩ : ∃ x, x = g := ⟨_, rfl⟩
  (refine T_loop (X := Nat × Nat) (fun x => [(45, .int .i64 (x.1 : Nat)), (44, .int .i64 cs.length), (7, .int .i64 (x.2 : Nat)), (9, .bool true), (10, .bool true), (43, .slice (some ⟨bq, oq, none⟩) cs.length c), (1, .int .i64 v), (6, .pointer (some ⟨gz, 0, none⟩)), (4, .pointer (some ⟨g4, 0, none⟩))]) (fun x => [entBlk gz 50 #[.int .i64 v, .int .i64 (zoneK cs v Z0 x.1).zf, .int .i64 (zoneK cs v Z0 x.1).zl, .bool false], entBlk g4 50 #[.int .i64 0, .int .i64 0, .int .i64 0, .bool false]]) (fun x => x.1 ≤ cs.length ∧ x.2 ≤ x.1 ∧ (zoneK cs v Z0 x.1).some_ = (Z0.some_ || decide (0 < x.2))) (fun x => cs.length - x.1) (0, 0) ⟨by (try dsimp only); omega, by (try dsimp only); omega, by simp [zoneK]⟩ (by (try dsimp only); (repeat (first | exact SubE.nil _ | refine SubE.cons rfl ?_))) (fun w' hw => by (try dsimp only); rw [show zoneK cs v Z0 0 = Z0 from rfl, hZ1]; exact hw.sel (by (repeat (first | exact Sel.nil _ | (apply Sel.cons; (repeat (first | with_reducible exact Pick.here _ _ | with_reducible apply Pick.there))))))) ?_)
  rintro ⟨k, r⟩ ⟨hk, hrk, hsm⟩
  dsimp only at hk hrk hsm ⊢
  by_cases hkl : k < cs.length
  · have hck := clK_eq hkl
    have hz1 : zoneK cs v Z0 (k + 1) = readZ cs v (zoneK cs v Z0 k) k := rfl
    have hr1 : isRd cs v k = (decide (cs[k].kind = 2) && (decide (cs[k].to ≠ -1) && decide (cs[k].res = v))) := by unfold isRd; rw [hck]
    by_cases hrd : cs[k].kind = 2 ∧ cs[k].to ≠ -1 ∧ cs[k].res = v
    · obtain ⟨q1, q2, q3⟩ := hrd
      rw [readZ_yes (by rw [hr1, decide_eq_true q1, decide_eq_true q2, decide_eq_true q3]; rfl), hck] at hz1
      have hr2 : (((r + 1 : Nat) : Int)) = ((r : Nat) : Int) + 1 := by omega
      generalize zoneK cs v Z0 k = Z at *
      repeat' (first | (refine GO ?_) | (refine GOE ?_; (first | (rintro _ _ ⟨rfl, rfl⟩) | (rintro _ _ ⟨g, rfl, rfl⟩) | (rintro _ _ ⟨A', c', rfl, rfl⟩))) | ((refine GO2 ?_ ?_) <;> intro h <;> (try (repeat (first | with_reducible (replace h := of_decide_eq_true h) | with_reducible (replace h := of_decide_eq_false h) | with_reducible (replace h := bnt h) | with_reducible (replace h := bnf h) | with_reducible (replace h := Int.not_lt.mp h) | with_reducible (replace h := Int.not_le.mp h) | with_reducible (replace h := band_dec h) | with_reducible (replace h := band_decF h) | with_reducible (replace h := bor_dec h) | with_reducible (replace h := bor_decF h)))) <;> (try (exfalso; first | contradiction | omega))) | fail)
      all_goals
        apply At_rounds (k + 1, r + 1)
        case hE => (try dsimp only); (repeat (first | exact SubE.nil _ | refine SubE.cons rfl ?_))
        case hS => (try dsimp only); rw [hz1]; (try dsimp only); (first | rw [if_pos (by omega)] | rw [if_neg (by omega)]); (first | rw [if_pos (by omega)] | rw [if_neg (by omega)]); exact fun w' hw => hw.sel (by (repeat (first | exact Sel.nil _ | (apply Sel.cons; (repeat (first | with_reducible exact Pick.here _ _ | with_reducible apply Pick.there))))))
        case hμ => (try dsimp only); omega
        case hp => exact ⟨hkl, by (try dsimp only); omega, by (try dsimp only); rw [hz1]; simp⟩
    · rw [readZ_no (by
        rw [hr1, Bool.eq_false_iff]
        intro e
        simp only [Bool.and_eq_true, decide_eq_true_eq] at e
        exact hrd ⟨e.1, e.2.1, e.2.2⟩)] at hz1
      generalize zoneK cs v Z0 k = Z at *
      by_cases q1 : cs[k].kind = 2
      · by_cases q2 : cs[k].to = -1
        · repeat' (first | (refine GO ?_) | (refine GOE ?_; (first | (rintro _ _ ⟨rfl, rfl⟩) | (rintro _ _ ⟨g, rfl, rfl⟩) | (rintro _ _ ⟨A', c', rfl, rfl⟩))) | ((refine GO2 ?_ ?_) <;> intro h <;> (try (repeat (first | with_reducible (replace h := of_decide_eq_true h) | with_reducible (replace h := of_decide_eq_false h) | with_reducible (replace h := bnt h) | with_reducible (replace h := bnf h) | with_reducible (replace h := Int.not_lt.mp h) | with_reducible (replace h := Int.not_le.mp h) | with_reducible (replace h := band_dec h) | with_reducible (replace h := band_decF h) | with_reducible (replace h := bor_dec h) | with_reducible (replace h := bor_decF h)))) <;> (try (exfalso; first | contradiction | omega))) | fail)
          all_goals
            apply At_rounds (k + 1, r)
            case hE => (try dsimp only); (repeat (first | exact SubE.nil _ | refine SubE.cons rfl ?_))
            case hS => (try dsimp only); rw [hz1]; exact fun w' hw => hw.sel (by (repeat (first | exact Sel.nil _ | (apply Sel.cons; (repeat (first | with_reducible exact Pick.here _ _ | with_reducible apply Pick.there))))))
            case hμ => (try dsimp only); omega
            case hp => exact ⟨hkl, by (try dsimp only); omega, by (try dsimp only); rw [hz1]; exact hsm⟩
        · have q3 : ¬ cs[k].res = v := fun e => hrd ⟨q1, q2, e⟩
          repeat' (first | (refine GO ?_) | (refine GOE ?_; (first | (rintro _ _ ⟨rfl, rfl⟩) | (rintro _ _ ⟨g, rfl, rfl⟩) | (rintro _ _ ⟨A', c', rfl, rfl⟩))) | ((refine GO2 ?_ ?_) <;> intro h <;> (try (repeat (first | with_reducible (replace h := of_decide_eq_true h) | with_reducible (replace h := of_decide_eq_false h) | with_reducible (replace h := bnt h) | with_reducible (replace h := bnf h) | with_reducible (replace h := Int.not_lt.mp h) | with_reducible (replace h := Int.not_le.mp h) | with_reducible (replace h := band_dec h) | with_reducible (replace h := band_decF h) | with_reducible (replace h := bor_dec h) | with_reducible (replace h := bor_decF h)))) <;> (try (exfalso; first | contradiction | omega))) | fail)
          all_goals
            apply At_rounds (k + 1, r)
            case hE => (try dsimp only); (repeat (first | exact SubE.nil _ | refine SubE.cons rfl ?_))
            case hS => (try dsimp only); rw [hz1]; exact fun w' hw => hw.sel (by (repeat (first | exact Sel.nil _ | (apply Sel.cons; (repeat (first | with_reducible exact Pick.here _ _ | with_reducible apply Pick.there))))))
            case hμ => (try dsimp only); omega
            case hp => exact ⟨hkl, by (try dsimp only); omega, by (try dsimp only); rw [hz1]; exact hsm⟩
      · repeat' (first | (refine GO ?_) | (refine GOE ?_; (first | (rintro _ _ ⟨rfl, rfl⟩) | (rintro _ _ ⟨g, rfl, rfl⟩) | (rintro _ _ ⟨A', c', rfl, rfl⟩))) | ((refine GO2 ?_ ?_) <;> intro h <;> (try (repeat (first | with_reducible (replace h := of_decide_eq_true h) | with_reducible (replace h := of_decide_eq_false h) | with_reducible (replace h := bnt h) | with_reducible (replace h := bnf h) | with_reducible (replace h := Int.not_lt.mp h) | with_reducible (replace h := Int.not_le.mp h) | with_reducible (replace h := band_dec h) | with_reducible (replace h := band_decF h) | with_reducible (replace h := bor_dec h) | with_reducible (replace h := bor_decF h)))) <;> (try (exfalso; first | contradiction | omega))) | fail)
        all_goals
          apply At_rounds (k + 1, r)
          case hE => (try dsimp only); (repeat (first | exact SubE.nil _ | refine SubE.cons rfl ?_))
          case hS => (try dsimp only); rw [hz1]; exact fun w' hw => hw.sel (by (repeat (first | exact Sel.nil _ | (apply Sel.cons; (repeat (first | with_reducible exact Pick.here _ _ | with_reducible apply Pick.there))))))
          case hμ => (try dsimp only); omega
          case hp => exact ⟨hkl, by (try dsimp only); omega, by (try dsimp only); rw [hz1]; exact hsm⟩
  · obtain rfl : k = cs.length := by omega
    have hend : endD cs v = zoneK cs v Z0 cs.length := by unfold endD; rw [hZ0]
    unfold zonD okD
    rw [hend, hsm]
    generalize zoneK cs v Z0 cs.length = Z at *
    by_cases hr0 : 0 < r
    · have hr3 : (0 : Int) < ((r : Nat) : Int) := by omega
      repeat' (first | (refine GO ?_) | (refine GOE ?_; (first | (rintro _ _ ⟨rfl, rfl⟩) | (rintro _ _ ⟨g, rfl, rfl⟩) | (rintro _ _ ⟨A', c', rfl, rfl⟩))) | ((refine GO2 ?_ ?_) <;> intro h <;> (try (repeat (first | with_reducible (replace h := of_decide_eq_true h) | with_reducible (replace h := of_decide_eq_false h) | with_reducible (replace h := bnt h) | with_reducible (replace h := bnf h) | with_reducible (replace h := Int.not_lt.mp h) | with_reducible (replace h := Int.not_le.mp h) | with_reducible (replace h := band_dec h) | with_reducible (replace h := band_decF h) | with_reducible (replace h := bor_dec h) | with_reducible (replace h := bor_decF h)))) <;> (try (exfalso; first | contradiction | omega))) | fail)
      all_goals (((with_reducible apply At_retM Try.results14); (repeat (first | exact ResIs.nil | (apply ResIs.tmp; exact rfl) | (apply ResIs.cell; exact rfl; exact Lds.auto))); intro w' hw); exact ⟨by simp [resVal, Zon.enc_mk, hZ1, hr3, *], hw.below0 rfl⟩)
    · obtain rfl : r = 0 := by omega
      have hr3 : ¬ (0 : Int) < ((0 : Nat) : Int) := by omega
      repeat' (first | (refine GO ?_) | (refine GOE ?_; (first | (rintro _ _ ⟨rfl, rfl⟩) | (rintro _ _ ⟨g, rfl, rfl⟩) | (rintro _ _ ⟨A', c', rfl, rfl⟩))) | ((refine GO2 ?_ ?_) <;> intro h <;> (try (repeat (first | with_reducible (replace h := of_decide_eq_true h) | with_reducible (replace h := of_decide_eq_false h) | with_reducible (replace h := bnt h) | with_reducible (replace h := bnf h) | with_reducible (replace h := Int.not_lt.mp h) | with_reducible (replace h := Int.not_le.mp h) | with_reducible (replace h := band_dec h) | with_reducible (replace h := band_decF h) | with_reducible (replace h := bor_dec h) | with_reducible (replace h := bor_decF h)))) <;> (try (exfalso; first | contradiction | omega))) | fail)
      all_goals (((with_reducible apply At_retM Try.results14); (repeat (first | exact ResIs.nil | (apply ResIs.tmp; exact rfl) | (apply ResIs.cell; exact rfl; exact Lds.auto))); intro w' hw); exact ⟨by simp [resVal, Zon.enc_mk, hZ1, hr3, *], hw.below0 rfl⟩)
theorem zoneOf_any (v : Int) (h00 : wrBy cs 0 = -1) : Calls Try.prog 14 #[.slice A cs.length c, .int .i64 v] w fun e w' => e = .returned (.tuple #[.agg (Zon.enc (zonD cs v)).toArray, .bool (okD cs v)]) ∧ Below w.heap.size w w' := by
  by_cases hv : v = 0
  · exact zoneOf_zero A c cs w hl hA v hv (by rw [hv]; exact h00)
  · rcases ixN_cases cs.length (isWr cs v) with ⟨h, _⟩ | ⟨q, h1, h2, _⟩
    · exact zoneOf_none A c cs w hl hA v hv h
    · by_cases ht : cs[q].to = -1
      · exact zoneOf_open A c cs w hl hA v hv q h2 h1 ht
      · exact zoneOf_done A c cs w hl hA v hv q h2 h1 ht
end
end Go.Proofs.Ytaonijdhmgcbjaa
