/- Lemmas for the walks (Th3, SvJ). No condition. -/
import Derived.Test.YtaonijdhmgcbjaaG12
import Derived.Test.YtaonijdhmgcbjaaG05
import Derived.Test.YtaonijdhmgcbjaaG11
set_option linter.unusedSimpArgs false
set_option linter.unusedVariables false
set_option linter.unusedSectionVars false
set_option linter.unnecessarySimpa false
namespace Go.Proofs.Ytaonijdhmgcbjaa
open Go.RowKit

section
variable (A0 D0 : Option Addr) (c0 e0 : Nat) (ts : List Int) (hs : List Hd) (ps : List (List Ak)) (w : World) (hts : ts.length ≤ 9223372036854775807) (hpl : ps.length ≤ 9223372036854775807) (hT : RdInt w A0 ts) (hD : RdRows Ak.enc 3 w D0 hs ps)
include hts hpl hT hD
set_option maxRecDepth 100000 in
set_option maxHeartbeats 8000000 in
theorem peopleRight_any : Calls Try.prog 30 #[.slice A0 ts.length c0, .slice D0 hs.length e0] w fun e w' => e = .returned (.int .i64 (pplR ts ps)) ∧ Below w.heap.size w w' := by
  have hty := fun w h => callsOf_any A0 none c0 0 ts [] w hts (by simp) h (fun i x h => by simp at h)
  have hcn := typesE_nil ts
  obtain ⟨hD1, hD2, hD3⟩ := hD
  have r1 := pplR_1 (ts := ts) (ps := ps)
  have r2 := pplR_2 (ts := ts) (ps := ps)
  have r3 := fun h h2 i hi j hj hb => pplR_3 (ts := ts) (ps := ps) h h2 (i := i) hi (j := j) hj hb
  have r0 := pplR_0 (ts := ts) (ps := ps)
  generalize pplR ts ps = R at *
  generalize callsR ts [] = CR at *
  obtain ⟨ccs, cy, ce⟩ := CR
  dsimp only at hty hcn
  generalize typesE ts = z at *
  subst hcn
  refine calls_T (S := []) [] Try.func30 rfl Try.ntmps30 (by simp) (Mem.nil _) ?_
  by_cases h1 : ce ≠ 0 ∨ 8 < ps.length
  · obtain rfl := r1 h1
    repeat' (first | (refine GO ?_) | (refine GOE ?_; (first | (rintro _ _ ⟨rfl, rfl⟩) | (rintro _ _ ⟨g, rfl, rfl⟩) | (rintro _ _ ⟨A', c', rfl, rfl⟩))) | ((refine GO2 ?_ ?_) <;> intro h <;> (try (repeat (first | with_reducible (replace h := of_decide_eq_true h) | with_reducible (replace h := of_decide_eq_false h) | with_reducible (replace h := bnt h) | with_reducible (replace h := bnf h) | with_reducible (replace h := Int.not_lt.mp h) | with_reducible (replace h := Int.not_le.mp h) | with_reducible (replace h := band_dec h) | with_reducible (replace h := band_decF h) | with_reducible (replace h := bor_dec h) | with_reducible (replace h := bor_decF h)))) <;> (try (exfalso; first | contradiction | omega))) | ((with_reducible (first | apply TD_e2z | apply TD_e3z | apply TL_e | apply TD_e2 | apply TD_e3)); ((with_reducible apply ES_callOwn (f := 19)); exact rfl; (intro w hw; exact hty w (hw.rd rfl hT)); exact rfl); (first | exact rfl | exact ⟨rfl, rfl, rfl⟩); (rintro _ _ ⟨A1, c1, rfl, rfl⟩); (try refine ⟨SUB, ?_⟩)) | fail)
    all_goals first
      | (exfalso; omega)
      | ((refine At_ret Try.results30 rfl (fun w' hw => ?_)); exact ⟨rfl, hw.below0 rfl⟩)
  · have r2 := r2 h1
    have r3 := r3 h1
    have r0 := r0 h1
    clear r1
    repeat' (first | (refine GO ?_) | (refine GOE ?_; (first | (rintro _ _ ⟨rfl, rfl⟩) | (rintro _ _ ⟨g, rfl, rfl⟩) | (rintro _ _ ⟨A', c', rfl, rfl⟩))) | ((refine GO2 ?_ ?_) <;> intro h <;> (try (repeat (first | with_reducible (replace h := of_decide_eq_true h) | with_reducible (replace h := of_decide_eq_false h) | with_reducible (replace h := bnt h) | with_reducible (replace h := bnf h) | with_reducible (replace h := Int.not_lt.mp h) | with_reducible (replace h := Int.not_le.mp h) | with_reducible (replace h := band_dec h) | with_reducible (replace h := band_decF h) | with_reducible (replace h := bor_dec h) | with_reducible (replace h := bor_decF h)))) <;> (try (exfalso; first | contradiction | omega))) | ((with_reducible (first | apply TD_e2z | apply TD_e3z | apply TL_e | apply TD_e2 | apply TD_e3)); ((with_reducible apply ES_callOwn (f := 19)); exact rfl; (intro w hw; exact hty w (hw.rd rfl hT)); exact rfl); (first | exact rfl | exact ⟨rfl, rfl, rfl⟩); (rintro _ _ ⟨A1, c1, rfl, rfl⟩); (try refine ⟨SUB, ?_⟩)) | fail)
    all_goals first | (exfalso; omega) | skip
    refine T_loop (X := Nat) (fun k => [(30, .int .i64 (k : Nat)), (29, .int .i64 hs.length), (28, .slice D0 hs.length e0), (8, .int .i64 (sumW ps k)), (1, .slice D0 hs.length e0), (0, .slice A0 ts.length c0)]) (fun _ => []) (fun k => k ≤ ps.length) (fun k => ps.length - k) 0 (by omega) (by (repeat (first | exact SubE.nil _ | refine SubE.cons rfl ?_))) (by exact SUBS) ?_
    intro k hk
    by_cases hkl : k < ps.length
    · obtain ⟨hrn, hrc, hrl, hrd⟩ := hD3 k (by omega) hkl
      obtain ⟨bD, oD, rfl, _⟩ := RdE.open hD1 (by omega)
      have hsu := sumW_succ hkl
      rw [← hrn] at hsu
      generalize sumW ps k = Q at *
      repeat' (first | (refine GO ?_) | (refine GOE ?_; (first | (rintro _ _ ⟨rfl, rfl⟩) | (rintro _ _ ⟨g, rfl, rfl⟩) | (rintro _ _ ⟨A', c', rfl, rfl⟩))) | ((refine GO2 ?_ ?_) <;> intro h <;> (try (repeat (first | with_reducible (replace h := of_decide_eq_true h) | with_reducible (replace h := of_decide_eq_false h) | with_reducible (replace h := bnt h) | with_reducible (replace h := bnf h) | with_reducible (replace h := Int.not_lt.mp h) | with_reducible (replace h := Int.not_le.mp h) | with_reducible (replace h := band_dec h) | with_reducible (replace h := band_decF h) | with_reducible (replace h := bor_dec h) | with_reducible (replace h := bor_decF h)))) <;> (try (exfalso; first | contradiction | omega))) | fail)
      apply At_rounds (k + 1)
      case hE => (try dsimp only); rw [hsu]; (repeat (first | exact SubE.nil _ | refine SubE.cons rfl ?_))
      case hS => exact SUBS
      case hμ => (try dsimp only); omega
      case hp => (try dsimp only); omega
    · obtain rfl : k = ps.length := by omega
      generalize sumW ps ps.length = Q at *
      by_cases h2 : 90 < Q
      · obtain rfl := r2 h2
        repeat' (first | (refine GO ?_) | (refine GOE ?_; (first | (rintro _ _ ⟨rfl, rfl⟩) | (rintro _ _ ⟨g, rfl, rfl⟩) | (rintro _ _ ⟨A', c', rfl, rfl⟩))) | ((refine GO2 ?_ ?_) <;> intro h <;> (try (repeat (first | with_reducible (replace h := of_decide_eq_true h) | with_reducible (replace h := of_decide_eq_false h) | with_reducible (replace h := bnt h) | with_reducible (replace h := bnf h) | with_reducible (replace h := Int.not_lt.mp h) | with_reducible (replace h := Int.not_le.mp h) | with_reducible (replace h := band_dec h) | with_reducible (replace h := band_decF h) | with_reducible (replace h := bor_dec h) | with_reducible (replace h := bor_decF h)))) <;> (try (exfalso; first | contradiction | omega))) | fail)
        (refine At_ret Try.results30 rfl (fun w' hw => ?_))
        exact ⟨rfl, hw.below0 rfl⟩
      · have r3 := r3 h2
        have r0 := r0 h2
        repeat' (first | (refine GO ?_) | (refine GOE ?_; (first | (rintro _ _ ⟨rfl, rfl⟩) | (rintro _ _ ⟨g, rfl, rfl⟩) | (rintro _ _ ⟨A', c', rfl, rfl⟩))) | ((refine GO2 ?_ ?_) <;> intro h <;> (try (repeat (first | with_reducible (replace h := of_decide_eq_true h) | with_reducible (replace h := of_decide_eq_false h) | with_reducible (replace h := bnt h) | with_reducible (replace h := bnf h) | with_reducible (replace h := Int.not_lt.mp h) | with_reducible (replace h := Int.not_le.mp h) | with_reducible (replace h := band_dec h) | with_reducible (replace h := band_decF h) | with_reducible (replace h := bor_dec h) | with_reducible (replace h := bor_decF h)))) <;> (try (exfalso; first | contradiction | omega))) | fail)
        refine T_loop (X := Nat) (fun k => [(43, .int .i64 (k : Nat)), (42, .int .i64 hs.length), (41, .slice D0 hs.length e0), (0, .slice A0 ts.length c0)]) (fun _ => []) (fun k => k ≤ ps.length ∧ ∀ i (hi : i < ps.length), i < k → rowB ts ps[i] = true) (fun k => ps.length - k) 0 ⟨by omega, fun i _ hi => by omega⟩ (by (repeat (first | exact SubE.nil _ | refine SubE.cons rfl ?_))) (by exact SUBS) ?_
        rintro k ⟨hk, hno⟩
        by_cases hkl : k < ps.length
        · obtain ⟨hrn, hrc, hrl, hrd⟩ := hD3 k (by omega) hkl
          obtain ⟨bD, oD, rfl, _⟩ := RdE.open hD1 (by omega)
          have r3 := r3 k hkl
          have hnx : rowB ts ps[k] = true → ∀ i (hi : i < ps.length), i < k + 1 → rowB ts ps[i] = true := fun hb i hi h2 => (Nat.lt_succ_iff_lt_or_eq.1 h2).elim (fun e => hno i hi e) (fun e => by subst e; exact hb)
          generalize ps[k] = row at *
          repeat' (first | (refine GO ?_) | (refine GOE ?_; (first | (rintro _ _ ⟨rfl, rfl⟩) | (rintro _ _ ⟨g, rfl, rfl⟩) | (rintro _ _ ⟨A', c', rfl, rfl⟩))) | ((refine GO2 ?_ ?_) <;> intro h <;> (try (repeat (first | with_reducible (replace h := of_decide_eq_true h) | with_reducible (replace h := of_decide_eq_false h) | with_reducible (replace h := bnt h) | with_reducible (replace h := bnf h) | with_reducible (replace h := Int.not_lt.mp h) | with_reducible (replace h := Int.not_le.mp h) | with_reducible (replace h := band_dec h) | with_reducible (replace h := band_decF h) | with_reducible (replace h := bor_dec h) | with_reducible (replace h := bor_decF h)))) <;> (try (exfalso; first | contradiction | omega))) | fail)
          rw [hrn]
          obtain ⟨ra, hra⟩ : ∃ x, hs[k].a = x := ⟨_, rfl⟩
          obtain ⟨rc, hrc2⟩ : ∃ x, hs[k].c = x := ⟨_, rfl⟩
          rw [hra] at hrd
          rw [hra, hrc2]
          clear hra hrc2 hrn
          refine T_loop (X := Nat) (fun j => [(49, .int .i64 (j : Nat)), (48, .int .i64 row.length), (47, .slice ra row.length rc), (43, .int .i64 (k : Nat)), (42, .int .i64 hs.length), (41, .slice (some ⟨bD, oD, none⟩) hs.length e0), (0, .slice A0 ts.length c0)]) (fun _ => []) (fun j => j ≤ row.length ∧ ∀ i (hi : i < row.length), i < j → askB ts row[i] = true) (fun j => row.length - j) 0 ⟨by omega, fun i _ hi => by omega⟩ (by (repeat (first | exact SubE.nil _ | refine SubE.cons rfl ?_))) (by exact SUBS) ?_
          rintro j ⟨hj, hnj⟩
          by_cases hjl : j < row.length
          · obtain ⟨bR, oR, rfl, _⟩ := RdE.open hrd (by omega)
            have r3 := r3 j hjl
            have hnj2 : askB ts row[j] = true → ∀ i (hi : i < row.length), i < j + 1 → askB ts row[i] = true := fun hb i hi h2 => (Nat.lt_succ_iff_lt_or_eq.1 h2).elim (fun e => hnj i hi e) (fun e => by subst e; exact hb)
            by_cases hin : 0 ≤ row[j].thing ∧ row[j].thing < ts.length
            · have hq : askB ts row[j] = ((kindsL (ts[row[j].thing.toNat]'(by omega))).contains row[j].kind && argB row[j].kind row[j].arg) := by
                unfold askB
                rw [decide_eq_true hin.1, decide_eq_true hin.2, show ts.getD row[j].thing.toNat 0 = ts[row[j].thing.toNat]'(by omega) by simp [show row[j].thing.toNat < ts.length by omega]]
                rfl
              obtain ⟨bT, oT, rfl, _⟩ := RdE.open hT (by omega)
              have hf := fun w => asked_any (ts[row[j].thing.toNat]'(by omega)) row[j].kind row[j].arg w
              generalize ((kindsL (ts[row[j].thing.toNat]'(by omega))).contains row[j].kind && argB row[j].kind row[j].arg) = K at *
              repeat' (first | (refine GG ?_) | (refine GE ?_; (first | (rintro _ _ ⟨rfl, rfl⟩) | (rintro _ _ ⟨g, rfl, rfl⟩) | (rintro _ _ ⟨A', c', rfl, rfl⟩)); (try refine ⟨SUB, ?_⟩)) | ((refine GO2 ?_ ?_) <;> intro h <;> (try (repeat (first | with_reducible (replace h := of_decide_eq_true h) | with_reducible (replace h := of_decide_eq_false h) | with_reducible (replace h := bnt h) | with_reducible (replace h := bnf h) | with_reducible (replace h := Int.not_lt.mp h) | with_reducible (replace h := Int.not_le.mp h) | with_reducible (replace h := band_dec h) | with_reducible (replace h := band_decF h) | with_reducible (replace h := bor_dec h) | with_reducible (replace h := bor_decF h)))) <;> (try (exfalso; first | contradiction | omega))) | (refine GOF ?_ ?_) | ((with_reducible apply T_draw (id := 18) 1000 (OT.seq [(0, 0), (0, 2), (0, 3), (0, 4), (1, 1), (2, 5), (0, 6), (0, 7), (0, 8), (0, 9), (0, 13), (0, 15), (1, 10), (0, 11), (1, 12), (1, 14), (1, 16), (2, 17), (0, 18), (0, 19)] .nil)); kernel_rfl; exact rfl; kernel_rfl; (repeat (first | with_reducible exact Blind.body | with_reducible apply Blind.seq | with_reducible apply Blind.block))) | ((with_reducible (first | apply TD_e2z | apply TD_e3z | apply TL_e | apply TD_e2 | apply TD_e3)); ((with_reducible apply ES_callV (f := 20)); exact rfl; (intro w hw; exact between_C _ _ _ w); exact rfl); (first | exact rfl | exact ⟨rfl, rfl, rfl⟩); (rintro _ _ ⟨rfl, rfl⟩); (try refine ⟨SUB, ?_⟩)) | ((with_reducible (first | apply TD_e2z | apply TD_e3z | apply TL_e | apply TD_e2 | apply TD_e3)); ((with_reducible apply ES_callV (f := 60)); exact rfl; (intro w hw; exact hf w); exact rfl); (first | exact rfl | exact ⟨rfl, rfl, rfl⟩); (rintro _ _ ⟨rfl, rfl⟩); (try refine ⟨SUB, ?_⟩)) | fail)
              all_goals first
                | (exfalso; omega)
                | ((refine At_ret Try.results30 rfl (fun w' hw => ?_)); obtain rfl := r3 (by rw [hq]; simp [*]); exact ⟨rfl, hw.below0 rfl⟩)
                | exact At_rounds (j + 1) ⟨hjl, hnj2 (by rw [hq]; simp [*])⟩ (by omega) (by (repeat (first | exact SubE.nil _ | refine SubE.cons rfl ?_))) (by exact SUBS)
            · have hq : askB ts row[j] = false := by
                rw [Bool.eq_false_iff]
                intro e
                exact hin ⟨(askB_ok e).1, (askB_ok e).2.1⟩
              obtain rfl := r3 hq
              repeat' (first | (refine GG ?_) | (refine GE ?_; (first | (rintro _ _ ⟨rfl, rfl⟩) | (rintro _ _ ⟨g, rfl, rfl⟩) | (rintro _ _ ⟨A', c', rfl, rfl⟩)); (try refine ⟨SUB, ?_⟩)) | ((refine GO2 ?_ ?_) <;> intro h <;> (try (repeat (first | with_reducible (replace h := of_decide_eq_true h) | with_reducible (replace h := of_decide_eq_false h) | with_reducible (replace h := bnt h) | with_reducible (replace h := bnf h) | with_reducible (replace h := Int.not_lt.mp h) | with_reducible (replace h := Int.not_le.mp h) | with_reducible (replace h := band_dec h) | with_reducible (replace h := band_decF h) | with_reducible (replace h := bor_dec h) | with_reducible (replace h := bor_decF h)))) <;> (try (exfalso; first | contradiction | omega))) | (refine GOF ?_ ?_) | ((with_reducible apply T_draw (id := 18) 1000 (OT.seq [(0, 0), (0, 2), (0, 3), (0, 4), (1, 1), (2, 5), (0, 6), (0, 7), (0, 8), (0, 9), (0, 13), (0, 15), (1, 10), (0, 11), (1, 12), (1, 14), (1, 16), (2, 17), (0, 18), (0, 19)] .nil)); kernel_rfl; exact rfl; kernel_rfl; (repeat (first | with_reducible exact Blind.body | with_reducible apply Blind.seq | with_reducible apply Blind.block))) | ((with_reducible (first | apply TD_e2z | apply TD_e3z | apply TL_e | apply TD_e2 | apply TD_e3)); ((with_reducible apply ES_callV (f := 20)); exact rfl; (intro w hw; exact between_C _ _ _ w); exact rfl); (first | exact rfl | exact ⟨rfl, rfl, rfl⟩); (rintro _ _ ⟨rfl, rfl⟩); (try refine ⟨SUB, ?_⟩)) | fail)
              all_goals first
                | (exfalso; omega)
                | ((refine At_ret Try.results30 rfl (fun w' hw => ?_)); exact ⟨rfl, hw.below0 rfl⟩)
          · obtain rfl : j = row.length := by omega
            repeat' (first | (refine GO ?_) | (refine GOE ?_; (first | (rintro _ _ ⟨rfl, rfl⟩) | (rintro _ _ ⟨g, rfl, rfl⟩) | (rintro _ _ ⟨A', c', rfl, rfl⟩))) | ((refine GO2 ?_ ?_) <;> intro h <;> (try (repeat (first | with_reducible (replace h := of_decide_eq_true h) | with_reducible (replace h := of_decide_eq_false h) | with_reducible (replace h := bnt h) | with_reducible (replace h := bnf h) | with_reducible (replace h := Int.not_lt.mp h) | with_reducible (replace h := Int.not_le.mp h) | with_reducible (replace h := band_dec h) | with_reducible (replace h := band_decF h) | with_reducible (replace h := bor_dec h) | with_reducible (replace h := bor_decF h)))) <;> (try (exfalso; first | contradiction | omega))) | fail)
            exact At_rounds (k + 1) ⟨hkl, hnx (all_at fun i hi => hnj i hi hi)⟩ (by omega) (by (repeat (first | exact SubE.nil _ | refine SubE.cons rfl ?_))) (by exact SUBS)
        · obtain rfl : k = ps.length := by omega
          obtain rfl := r0 fun i hi => hno i hi hi
          repeat' (first | (refine GO ?_) | (refine GOE ?_; (first | (rintro _ _ ⟨rfl, rfl⟩) | (rintro _ _ ⟨g, rfl, rfl⟩) | (rintro _ _ ⟨A', c', rfl, rfl⟩))) | ((refine GO2 ?_ ?_) <;> intro h <;> (try (repeat (first | with_reducible (replace h := of_decide_eq_true h) | with_reducible (replace h := of_decide_eq_false h) | with_reducible (replace h := bnt h) | with_reducible (replace h := bnf h) | with_reducible (replace h := Int.not_lt.mp h) | with_reducible (replace h := Int.not_le.mp h) | with_reducible (replace h := band_dec h) | with_reducible (replace h := band_decF h) | with_reducible (replace h := bor_dec h) | with_reducible (replace h := bor_decF h)))) <;> (try (exfalso; first | contradiction | omega))) | fail)
          (refine At_ret Try.results30 rfl (fun w' hw => ?_))
          exact ⟨rfl, hw.below0 rfl⟩
end
end Go.Proofs.Ytaonijdhmgcbjaa

namespace Go.Proofs.Ytaonijdhmgcbjaa
open Go.RowKit
set_option linter.unusedSectionVars false

def actB (n m : Int) (x : Ac) : Bool := decide (1 ≤ x.kind ∧ x.kind ≤ 4 ∧ (x.kind = 1 → 0 ≤ x.a ∧ x.a < m) ∧ (x.kind = 4 → 0 ≤ x.a ∧ x.a < n))
def actsE (n : Int) (ps : List (List Ak)) (l : List Ac) : Int :=
  if n < 1 ∨ 5 < n then 1 else if pplR [1] ps ≠ 0 then pplR [1] ps else if 12 < sumW ps ps.length ∨ 1000 < l.length then 2 else if l.all (actB n ps.length) = true then 0 else 1
theorem actsE_ok {n : Int} {ps : List (List Ak)} {l : List Ac} (h : actsE n ps l = 0) : 1 ≤ n ∧ n ≤ 5 ∧ pplR [1] ps = 0 ∧ l.length ≤ 1000 ∧ ∀ k, k < l.length → actR n.toNat ps.length (l.getD k default) := by
  unfold actsE at h
  split at h
  · cases h
  split at h
  · rename_i h2; exact absurd h h2
  split at h
  · cases h
  split at h
  · rename_i h1 h2 h3 h4
    refine ⟨by omega, by omega, Classical.not_not.1 h2, by omega, fun k hk => ?_⟩
    rw [List.all_eq_true] at h4
    have := h4 l[k] (List.getElem_mem hk)
    unfold actB at this
    rw [decide_eq_true_eq] at this
    rw [show l.getD k default = l[k] by simp [hk]]
    refine ⟨this.1, this.2.1, this.2.2.1, fun e => ?_⟩
    have := this.2.2.2 e
    omega
  · cases h
theorem rd_blk1 {C : Ctx} {w : World} {S : List Ent} {g t : Nat} {x : Int} (hw : Mem C w S) (hm : entBlk g t #[.int .i64 x] ∈ S) : RdInt w (some ⟨g, 0, none⟩) [x] := by
  obtain ⟨h1, h2⟩ := hw.blkAt hm
  intro j z hj
  refine ⟨g, 0, rfl, h1, fun off v hv => ?_⟩
  rw [h2]
  match j, hj, off, hv with
  | 0, hj, 0, hv => simp at hj; subst hj; simpa [intEnc] using hv
  | j + 1, hj, _, _ => simp at hj
  | 0, _, off + 1, hv => simp [intEnc] at hv
section
variable (n : Int) (D0 B0 : Option Addr) (e0 d0 : Nat) (hs : List Hd) (ps : List (List Ak)) (l : List Ac) (w : World) (hpl : ps.length ≤ 9223372036854775807) (hll : l.length ≤ 9223372036854775807) (hD : RdRows Ak.enc 3 w D0 hs ps) (hB : RdE Ac.enc 2 w B0 l)
include hpl hll hD hB
set_option maxRecDepth 100000 in
set_option maxHeartbeats 8000000 in
theorem svCheck_any : Calls Try.prog 26 #[.int .i64 n, .slice D0 hs.length e0, .slice B0 l.length d0] w fun e w' => e = .returned (.int .i64 (actsE n ps l)) ∧ Below w.heap.size w w' := by
  have hlen : hs.length = ps.length := hD.2.1
  have hrows : ∀ {C : Ctx} {w' : World} {S : List Ent}, C.F = [] → C.w0 = w → Mem C w' S → RdRows Ak.enc 3 w' D0 hs ps := fun hF h0 hw =>
    ⟨hw.rd hF (by rw [h0]; exact hD.1), hD.2.1, fun j h1 h2 => ⟨(hD.2.2 j h1 h2).1, (hD.2.2 j h1 h2).2.1, (hD.2.2 j h1 h2).2.2.1, hw.rd hF (by rw [h0]; exact (hD.2.2 j h1 h2).2.2.2)⟩⟩
  have hck := fun A w h1 h2 => thCheck_any A D0 1 e0 [1] hs ps w (by simp) hpl h1 h2
  obtain ⟨hD1, hD2, hD3⟩ := hD
  unfold actsE
  refine calls_T (S := []) [] Try.func26 rfl Try.ntmps26 (by simp) (Mem.nil _) ?_
  by_cases h1 : n < 1 ∨ 5 < n
  · rw [if_pos h1]
    repeat' (first | (refine GO ?_) | (refine GOE ?_; (first | (rintro _ _ ⟨rfl, rfl⟩) | (rintro _ _ ⟨g, rfl, rfl⟩) | (rintro _ _ ⟨A', c', rfl, rfl⟩))) | ((refine GO2 ?_ ?_) <;> intro h <;> (try (repeat (first | with_reducible (replace h := of_decide_eq_true h) | with_reducible (replace h := of_decide_eq_false h) | with_reducible (replace h := bnt h) | with_reducible (replace h := bnf h) | with_reducible (replace h := Int.not_lt.mp h) | with_reducible (replace h := Int.not_le.mp h) | with_reducible (replace h := band_dec h) | with_reducible (replace h := band_decF h) | with_reducible (replace h := bor_dec h) | with_reducible (replace h := bor_decF h)))) <;> (try (exfalso; first | contradiction | omega))) | ((with_reducible (first | apply TD_e2z | apply TD_e3z | apply TL_e | apply TD_e2 | apply TD_e3)); ((with_reducible apply ES_callV (f := 56)); exact rfl; (intro w hw; exact hck _ w (rd_blk1 hw (by first | ((repeat (first | with_reducible exact List.mem_cons_self | with_reducible apply List.mem_cons_of_mem)); done) | (repeat (first | exact List.Mem.head _ | apply List.Mem.tail)))) (hrows rfl rfl hw)); exact rfl); (first | exact rfl | exact ⟨rfl, rfl, rfl⟩); (rintro _ _ ⟨rfl, rfl⟩); (try refine ⟨SUB, ?_⟩)) | fail)
    all_goals first
      | (exfalso; omega)
      | ((refine At_ret Try.results26 rfl (fun w' hw => ?_)); exact ⟨rfl, hw.below0 rfl⟩)
  rw [if_neg h1]
  by_cases h2 : pplR [1] ps = 0
  case neg =>
    rw [if_pos h2]
    generalize pplR [1] ps = R at *
    repeat' (first | (refine GO ?_) | (refine GOE ?_; (first | (rintro _ _ ⟨rfl, rfl⟩) | (rintro _ _ ⟨g, rfl, rfl⟩) | (rintro _ _ ⟨A', c', rfl, rfl⟩))) | ((refine GO2 ?_ ?_) <;> intro h <;> (try (repeat (first | with_reducible (replace h := of_decide_eq_true h) | with_reducible (replace h := of_decide_eq_false h) | with_reducible (replace h := bnt h) | with_reducible (replace h := bnf h) | with_reducible (replace h := Int.not_lt.mp h) | with_reducible (replace h := Int.not_le.mp h) | with_reducible (replace h := band_dec h) | with_reducible (replace h := band_decF h) | with_reducible (replace h := bor_dec h) | with_reducible (replace h := bor_decF h)))) <;> (try (exfalso; first | contradiction | omega))) | ((with_reducible (first | apply TD_e2z | apply TD_e3z | apply TL_e | apply TD_e2 | apply TD_e3)); ((with_reducible apply ES_callV (f := 56)); exact rfl; (intro w hw; exact hck _ w (rd_blk1 hw (by first | ((repeat (first | with_reducible exact List.mem_cons_self | with_reducible apply List.mem_cons_of_mem)); done) | (repeat (first | exact List.Mem.head _ | apply List.Mem.tail)))) (hrows rfl rfl hw)); exact rfl); (first | exact rfl | exact ⟨rfl, rfl, rfl⟩); (rintro _ _ ⟨rfl, rfl⟩); (try refine ⟨SUB, ?_⟩)) | fail)
    all_goals first
      | (exfalso; omega)
      | ((refine At_ret Try.results26 rfl (fun w' hw => ?_)); exact ⟨rfl, hw.below0 rfl⟩)
  rw [if_neg (by simp [h2])]
  rw [h2] at hck
  repeat' (first | (refine GO ?_) | (refine GOE ?_; (first | (rintro _ _ ⟨rfl, rfl⟩) | (rintro _ _ ⟨g, rfl, rfl⟩) | (rintro _ _ ⟨A', c', rfl, rfl⟩))) | ((refine GO2 ?_ ?_) <;> intro h <;> (try (repeat (first | with_reducible (replace h := of_decide_eq_true h) | with_reducible (replace h := of_decide_eq_false h) | with_reducible (replace h := bnt h) | with_reducible (replace h := bnf h) | with_reducible (replace h := Int.not_lt.mp h) | with_reducible (replace h := Int.not_le.mp h) | with_reducible (replace h := band_dec h) | with_reducible (replace h := band_decF h) | with_reducible (replace h := bor_dec h) | with_reducible (replace h := bor_decF h)))) <;> (try (exfalso; first | contradiction | omega))) | ((with_reducible (first | apply TD_e2z | apply TD_e3z | apply TL_e | apply TD_e2 | apply TD_e3)); ((with_reducible apply ES_callV (f := 56)); exact rfl; (intro w hw; exact hck _ w (rd_blk1 hw (by first | ((repeat (first | with_reducible exact List.mem_cons_self | with_reducible apply List.mem_cons_of_mem)); done) | (repeat (first | exact List.Mem.head _ | apply List.Mem.tail)))) (hrows rfl rfl hw)); exact rfl); (first | exact rfl | exact ⟨rfl, rfl, rfl⟩); (rintro _ _ ⟨rfl, rfl⟩); (try refine ⟨SUB, ?_⟩)) | fail)
  all_goals first | (exfalso; omega) | skip
  refine T_loop (X := Nat) (fun k => [(27, .int .i64 (k : Nat)), (26, .int .i64 hs.length), (25, .slice D0 hs.length e0), (8, .int .i64 (sumW ps k)), (0, .int .i64 n), (1, .slice D0 hs.length e0), (2, .slice B0 l.length d0)]) (fun _ => []) (fun k => k ≤ ps.length) (fun k => ps.length - k) 0 (by omega) (by (repeat (first | exact SubE.nil _ | refine SubE.cons rfl ?_))) (by exact SUBS) ?_
  intro k hk
  by_cases hkl : k < ps.length
  · obtain ⟨hrn, hrc, hrl, hrd⟩ := hD3 k (by omega) hkl
    obtain ⟨bD, oD, rfl, _⟩ := RdE.open hD1 (by omega)
    have hsu := sumW_succ hkl
    rw [← hrn] at hsu
    generalize sumW ps k = Q at *
    repeat' (first | (refine GO ?_) | (refine GOE ?_; (first | (rintro _ _ ⟨rfl, rfl⟩) | (rintro _ _ ⟨g, rfl, rfl⟩) | (rintro _ _ ⟨A', c', rfl, rfl⟩))) | ((refine GO2 ?_ ?_) <;> intro h <;> (try (repeat (first | with_reducible (replace h := of_decide_eq_true h) | with_reducible (replace h := of_decide_eq_false h) | with_reducible (replace h := bnt h) | with_reducible (replace h := bnf h) | with_reducible (replace h := Int.not_lt.mp h) | with_reducible (replace h := Int.not_le.mp h) | with_reducible (replace h := band_dec h) | with_reducible (replace h := band_decF h) | with_reducible (replace h := bor_dec h) | with_reducible (replace h := bor_decF h)))) <;> (try (exfalso; first | contradiction | omega))) | fail)
    apply At_rounds (k + 1)
    case hE => (try dsimp only); rw [hsu]; (repeat (first | exact SubE.nil _ | refine SubE.cons rfl ?_))
    case hS => exact SUBS
    case hμ => (try dsimp only); omega
    case hp => (try dsimp only); omega
  obtain rfl : k = ps.length := by omega
  generalize sumW ps ps.length = Q at *
  by_cases h3 : 12 < Q ∨ 1000 < l.length
  · rw [if_pos h3]
    repeat' (first | (refine GO ?_) | (refine GOE ?_; (first | (rintro _ _ ⟨rfl, rfl⟩) | (rintro _ _ ⟨g, rfl, rfl⟩) | (rintro _ _ ⟨A', c', rfl, rfl⟩))) | ((refine GO2 ?_ ?_) <;> intro h <;> (try (repeat (first | with_reducible (replace h := of_decide_eq_true h) | with_reducible (replace h := of_decide_eq_false h) | with_reducible (replace h := bnt h) | with_reducible (replace h := bnf h) | with_reducible (replace h := Int.not_lt.mp h) | with_reducible (replace h := Int.not_le.mp h) | with_reducible (replace h := band_dec h) | with_reducible (replace h := band_decF h) | with_reducible (replace h := bor_dec h) | with_reducible (replace h := bor_decF h)))) <;> (try (exfalso; first | contradiction | omega))) | fail)
    all_goals first
      | (exfalso; omega)
      | ((refine At_ret Try.results26 rfl (fun w' hw => ?_)); exact ⟨rfl, hw.below0 rfl⟩)
  rw [if_neg h3]
  have hbad : ∀ i (hi : i < l.length), ¬ (1 ≤ l[i].kind ∧ l[i].kind ≤ 4 ∧ (l[i].kind = 1 → 0 ≤ l[i].a ∧ l[i].a < ps.length) ∧ (l[i].kind = 4 → 0 ≤ l[i].a ∧ l[i].a < n)) → (if l.all (actB n ps.length) = true then (0 : Int) else 1) = 1 := fun i hi hb => by
    rw [if_neg]
    rw [all_no hi (decide_eq_false hb)]; decide
  have hgood : (∀ i (hi : i < l.length), 1 ≤ l[i].kind ∧ l[i].kind ≤ 4 ∧ (l[i].kind = 1 → 0 ≤ l[i].a ∧ l[i].a < ps.length) ∧ (l[i].kind = 4 → 0 ≤ l[i].a ∧ l[i].a < n)) → (if l.all (actB n ps.length) = true then (0 : Int) else 1) = 0 := fun hg => by
    have hall : l.all (actB n ps.length) = true := all_at fun i hi => decide_eq_true (hg i hi)
    rw [if_pos hall]
  generalize (if l.all (actB n ps.length) = true then (0 : Int) else 1) = R at *
  repeat' (first | (refine GO ?_) | (refine GOE ?_; (first | (rintro _ _ ⟨rfl, rfl⟩) | (rintro _ _ ⟨g, rfl, rfl⟩) | (rintro _ _ ⟨A', c', rfl, rfl⟩))) | ((refine GO2 ?_ ?_) <;> intro h <;> (try (repeat (first | with_reducible (replace h := of_decide_eq_true h) | with_reducible (replace h := of_decide_eq_false h) | with_reducible (replace h := bnt h) | with_reducible (replace h := bnf h) | with_reducible (replace h := Int.not_lt.mp h) | with_reducible (replace h := Int.not_le.mp h) | with_reducible (replace h := band_dec h) | with_reducible (replace h := band_decF h) | with_reducible (replace h := bor_dec h) | with_reducible (replace h := bor_decF h)))) <;> (try (exfalso; first | contradiction | omega))) | fail)
  all_goals first | (exfalso; omega) | skip
  refine T_loop (X := Nat) (fun k => [(45, .int .i64 (k : Nat)), (44, .int .i64 l.length), (43, .slice B0 l.length d0), (0, .int .i64 n), (1, .slice D0 hs.length e0)]) (fun _ => []) (fun k => k ≤ l.length ∧ ∀ i (hi : i < l.length), i < k → 1 ≤ l[i].kind ∧ l[i].kind ≤ 4 ∧ (l[i].kind = 1 → 0 ≤ l[i].a ∧ l[i].a < ps.length) ∧ (l[i].kind = 4 → 0 ≤ l[i].a ∧ l[i].a < n)) (fun k => l.length - k) 0 ⟨by omega, fun i _ hi => by omega⟩ (by (repeat (first | exact SubE.nil _ | refine SubE.cons rfl ?_))) (by exact SUBS) ?_
  rintro k ⟨hk, hno⟩
  by_cases hkl : k < l.length
  · obtain ⟨bC, oC, rfl, _⟩ := RdE.open hB (by omega)
    have hb := hbad k hkl
    have hnx : (1 ≤ l[k].kind ∧ l[k].kind ≤ 4 ∧ (l[k].kind = 1 → 0 ≤ l[k].a ∧ l[k].a < ps.length) ∧ (l[k].kind = 4 → 0 ≤ l[k].a ∧ l[k].a < n)) → ∀ i (hi : i < l.length), i < k + 1 → 1 ≤ l[i].kind ∧ l[i].kind ≤ 4 ∧ (l[i].kind = 1 → 0 ≤ l[i].a ∧ l[i].a < ps.length) ∧ (l[i].kind = 4 → 0 ≤ l[i].a ∧ l[i].a < n) := fun hb i hi h2 => (Nat.lt_succ_iff_lt_or_eq.1 h2).elim (fun e => hno i hi e) (fun e => by subst e; exact hb)
    clear hbad hgood hno
    repeat' (first | (refine GO ?_) | (refine GOE ?_; (first | (rintro _ _ ⟨rfl, rfl⟩) | (rintro _ _ ⟨g, rfl, rfl⟩) | (rintro _ _ ⟨A', c', rfl, rfl⟩))) | ((refine GO2 ?_ ?_) <;> intro h <;> (try (repeat (first | with_reducible (replace h := of_decide_eq_true h) | with_reducible (replace h := of_decide_eq_false h) | with_reducible (replace h := bnt h) | with_reducible (replace h := bnf h) | with_reducible (replace h := Int.not_lt.mp h) | with_reducible (replace h := Int.not_le.mp h) | with_reducible (replace h := band_dec h) | with_reducible (replace h := band_decF h) | with_reducible (replace h := bor_dec h) | with_reducible (replace h := bor_decF h)))) <;> (try (exfalso; first | contradiction | omega))) | ((with_reducible (first | apply TD_e2z | apply TD_e3z | apply TL_e | apply TD_e2 | apply TD_e3)); ((with_reducible apply ES_callV (f := 56)); exact rfl; (intro w hw; exact hck _ w (rd_blk1 hw (by first | ((repeat (first | with_reducible exact List.mem_cons_self | with_reducible apply List.mem_cons_of_mem)); done) | (repeat (first | exact List.Mem.head _ | apply List.Mem.tail)))) (hrows rfl rfl hw)); exact rfl); (first | exact rfl | exact ⟨rfl, rfl, rfl⟩); (rintro _ _ ⟨rfl, rfl⟩); (try refine ⟨SUB, ?_⟩)) | fail)
    all_goals first
      | (exfalso; omega)
      | ((refine At_ret Try.results26 rfl (fun w' hw => ?_)); obtain rfl := hb (by omega); exact ⟨rfl, hw.below0 rfl⟩)
      | exact At_rounds (k + 1) ⟨hkl, hnx (by omega)⟩ (by omega) (by (repeat (first | exact SubE.nil _ | refine SubE.cons rfl ?_))) (by exact SUBS)
  · obtain rfl : k = l.length := by omega
    obtain rfl := hgood fun i hi => hno i hi hi
    repeat' (first | (refine GO ?_) | (refine GOE ?_; (first | (rintro _ _ ⟨rfl, rfl⟩) | (rintro _ _ ⟨g, rfl, rfl⟩) | (rintro _ _ ⟨A', c', rfl, rfl⟩))) | ((refine GO2 ?_ ?_) <;> intro h <;> (try (repeat (first | with_reducible (replace h := of_decide_eq_true h) | with_reducible (replace h := of_decide_eq_false h) | with_reducible (replace h := bnt h) | with_reducible (replace h := bnf h) | with_reducible (replace h := Int.not_lt.mp h) | with_reducible (replace h := Int.not_le.mp h) | with_reducible (replace h := band_dec h) | with_reducible (replace h := band_decF h) | with_reducible (replace h := bor_dec h) | with_reducible (replace h := bor_decF h)))) <;> (try (exfalso; first | contradiction | omega))) | fail)
    (refine At_ret Try.results26 rfl (fun w' hw => ?_))
    exact ⟨rfl, hw.below0 rfl⟩
set_option maxRecDepth 100000 in
set_option maxHeartbeats 8000000 in
theorem actsRight_any : Calls Try.prog 7 #[.int .i64 n, .slice D0 hs.length e0, .slice B0 l.length d0] w fun e w' => e = .returned (.int .i64 (actsE n ps l)) ∧ Below w.heap.size w w' := by
  have hlen : hs.length = ps.length := hD.2.1
  have hrows : ∀ {C : Ctx} {w' : World} {S : List Ent}, C.F = [] → C.w0 = w → Mem C w' S → RdRows Ak.enc 3 w' D0 hs ps := fun hF h0 hw =>
    ⟨hw.rd hF (by rw [h0]; exact hD.1), hD.2.1, fun j h1 h2 => ⟨(hD.2.2 j h1 h2).1, (hD.2.2 j h1 h2).2.1, (hD.2.2 j h1 h2).2.2.1, hw.rd hF (by rw [h0]; exact (hD.2.2 j h1 h2).2.2.2)⟩⟩
  have hck := fun A w h1 h2 => peopleRight_any A D0 1 e0 [1] hs ps w (by simp) hpl h1 h2
  obtain ⟨hD1, hD2, hD3⟩ := hD
  unfold actsE
  refine calls_T (S := []) [] Try.func7 rfl Try.ntmps7 (by simp) (Mem.nil _) ?_
  by_cases h1 : n < 1 ∨ 5 < n
  · rw [if_pos h1]
    repeat' (first | (refine GO ?_) | (refine GOE ?_; (first | (rintro _ _ ⟨rfl, rfl⟩) | (rintro _ _ ⟨g, rfl, rfl⟩) | (rintro _ _ ⟨A', c', rfl, rfl⟩))) | ((refine GO2 ?_ ?_) <;> intro h <;> (try (repeat (first | with_reducible (replace h := of_decide_eq_true h) | with_reducible (replace h := of_decide_eq_false h) | with_reducible (replace h := bnt h) | with_reducible (replace h := bnf h) | with_reducible (replace h := Int.not_lt.mp h) | with_reducible (replace h := Int.not_le.mp h) | with_reducible (replace h := band_dec h) | with_reducible (replace h := band_decF h) | with_reducible (replace h := bor_dec h) | with_reducible (replace h := bor_decF h)))) <;> (try (exfalso; first | contradiction | omega))) | ((with_reducible (first | apply TD_e2z | apply TD_e3z | apply TL_e | apply TD_e2 | apply TD_e3)); ((with_reducible apply ES_callV (f := 30)); exact rfl; (intro w hw; exact hck _ w (rd_blk1 hw (by first | ((repeat (first | with_reducible exact List.mem_cons_self | with_reducible apply List.mem_cons_of_mem)); done) | (repeat (first | exact List.Mem.head _ | apply List.Mem.tail)))) (hrows rfl rfl hw)); exact rfl); (first | exact rfl | exact ⟨rfl, rfl, rfl⟩); (rintro _ _ ⟨rfl, rfl⟩); (try refine ⟨SUB, ?_⟩)) | ((with_reducible (first | apply TD_e2z | apply TD_e3z | apply TL_e | apply TD_e2 | apply TD_e3)); ((with_reducible apply ES_callV (f := 20)); exact rfl; (intro w hw; exact between_C _ _ _ w); exact rfl); (first | exact rfl | exact ⟨rfl, rfl, rfl⟩); (rintro _ _ ⟨rfl, rfl⟩); (try refine ⟨SUB, ?_⟩)) | fail)
    all_goals first
      | (exfalso; omega)
      | ((refine At_ret Try.results7 rfl (fun w' hw => ?_)); exact ⟨rfl, hw.below0 rfl⟩)
  rw [if_neg h1]
  by_cases h2 : pplR [1] ps = 0
  case neg =>
    rw [if_pos h2]
    generalize pplR [1] ps = R at *
    repeat' (first | (refine GO ?_) | (refine GOE ?_; (first | (rintro _ _ ⟨rfl, rfl⟩) | (rintro _ _ ⟨g, rfl, rfl⟩) | (rintro _ _ ⟨A', c', rfl, rfl⟩))) | ((refine GO2 ?_ ?_) <;> intro h <;> (try (repeat (first | with_reducible (replace h := of_decide_eq_true h) | with_reducible (replace h := of_decide_eq_false h) | with_reducible (replace h := bnt h) | with_reducible (replace h := bnf h) | with_reducible (replace h := Int.not_lt.mp h) | with_reducible (replace h := Int.not_le.mp h) | with_reducible (replace h := band_dec h) | with_reducible (replace h := band_decF h) | with_reducible (replace h := bor_dec h) | with_reducible (replace h := bor_decF h)))) <;> (try (exfalso; first | contradiction | omega))) | ((with_reducible (first | apply TD_e2z | apply TD_e3z | apply TL_e | apply TD_e2 | apply TD_e3)); ((with_reducible apply ES_callV (f := 30)); exact rfl; (intro w hw; exact hck _ w (rd_blk1 hw (by first | ((repeat (first | with_reducible exact List.mem_cons_self | with_reducible apply List.mem_cons_of_mem)); done) | (repeat (first | exact List.Mem.head _ | apply List.Mem.tail)))) (hrows rfl rfl hw)); exact rfl); (first | exact rfl | exact ⟨rfl, rfl, rfl⟩); (rintro _ _ ⟨rfl, rfl⟩); (try refine ⟨SUB, ?_⟩)) | ((with_reducible (first | apply TD_e2z | apply TD_e3z | apply TL_e | apply TD_e2 | apply TD_e3)); ((with_reducible apply ES_callV (f := 20)); exact rfl; (intro w hw; exact between_C _ _ _ w); exact rfl); (first | exact rfl | exact ⟨rfl, rfl, rfl⟩); (rintro _ _ ⟨rfl, rfl⟩); (try refine ⟨SUB, ?_⟩)) | fail)
    all_goals first
      | (exfalso; omega)
      | ((refine At_ret Try.results7 rfl (fun w' hw => ?_)); exact ⟨rfl, hw.below0 rfl⟩)
  rw [if_neg (by simp [h2])]
  rw [h2] at hck
  repeat' (first | (refine GO ?_) | (refine GOE ?_; (first | (rintro _ _ ⟨rfl, rfl⟩) | (rintro _ _ ⟨g, rfl, rfl⟩) | (rintro _ _ ⟨A', c', rfl, rfl⟩))) | ((refine GO2 ?_ ?_) <;> intro h <;> (try (repeat (first | with_reducible (replace h := of_decide_eq_true h) | with_reducible (replace h := of_decide_eq_false h) | with_reducible (replace h := bnt h) | with_reducible (replace h := bnf h) | with_reducible (replace h := Int.not_lt.mp h) | with_reducible (replace h := Int.not_le.mp h) | with_reducible (replace h := band_dec h) | with_reducible (replace h := band_decF h) | with_reducible (replace h := bor_dec h) | with_reducible (replace h := bor_decF h)))) <;> (try (exfalso; first | contradiction | omega))) | ((with_reducible (first | apply TD_e2z | apply TD_e3z | apply TL_e | apply TD_e2 | apply TD_e3)); ((with_reducible apply ES_callV (f := 30)); exact rfl; (intro w hw; exact hck _ w (rd_blk1 hw (by first | ((repeat (first | with_reducible exact List.mem_cons_self | with_reducible apply List.mem_cons_of_mem)); done) | (repeat (first | exact List.Mem.head _ | apply List.Mem.tail)))) (hrows rfl rfl hw)); exact rfl); (first | exact rfl | exact ⟨rfl, rfl, rfl⟩); (rintro _ _ ⟨rfl, rfl⟩); (try refine ⟨SUB, ?_⟩)) | ((with_reducible (first | apply TD_e2z | apply TD_e3z | apply TL_e | apply TD_e2 | apply TD_e3)); ((with_reducible apply ES_callV (f := 20)); exact rfl; (intro w hw; exact between_C _ _ _ w); exact rfl); (first | exact rfl | exact ⟨rfl, rfl, rfl⟩); (rintro _ _ ⟨rfl, rfl⟩); (try refine ⟨SUB, ?_⟩)) | fail)
  all_goals first | (exfalso; omega) | skip
  refine T_loop (X := Nat) (fun k => [(24, .int .i64 (k : Nat)), (23, .int .i64 hs.length), (22, .slice D0 hs.length e0), (8, .int .i64 (sumW ps k)), (0, .int .i64 n), (1, .slice D0 hs.length e0), (2, .slice B0 l.length d0)]) (fun _ => []) (fun k => k ≤ ps.length) (fun k => ps.length - k) 0 (by omega) (by (repeat (first | exact SubE.nil _ | refine SubE.cons rfl ?_))) (by exact SUBS) ?_
  intro k hk
  by_cases hkl : k < ps.length
  · obtain ⟨hrn, hrc, hrl, hrd⟩ := hD3 k (by omega) hkl
    obtain ⟨bD, oD, rfl, _⟩ := RdE.open hD1 (by omega)
    have hsu := sumW_succ hkl
    rw [← hrn] at hsu
    generalize sumW ps k = Q at *
    repeat' (first | (refine GO ?_) | (refine GOE ?_; (first | (rintro _ _ ⟨rfl, rfl⟩) | (rintro _ _ ⟨g, rfl, rfl⟩) | (rintro _ _ ⟨A', c', rfl, rfl⟩))) | ((refine GO2 ?_ ?_) <;> intro h <;> (try (repeat (first | with_reducible (replace h := of_decide_eq_true h) | with_reducible (replace h := of_decide_eq_false h) | with_reducible (replace h := bnt h) | with_reducible (replace h := bnf h) | with_reducible (replace h := Int.not_lt.mp h) | with_reducible (replace h := Int.not_le.mp h) | with_reducible (replace h := band_dec h) | with_reducible (replace h := band_decF h) | with_reducible (replace h := bor_dec h) | with_reducible (replace h := bor_decF h)))) <;> (try (exfalso; first | contradiction | omega))) | fail)
    apply At_rounds (k + 1)
    case hE => (try dsimp only); rw [hsu]; (repeat (first | exact SubE.nil _ | refine SubE.cons rfl ?_))
    case hS => exact SUBS
    case hμ => (try dsimp only); omega
    case hp => (try dsimp only); omega
  obtain rfl : k = ps.length := by omega
  generalize sumW ps ps.length = Q at *
  by_cases h3 : 12 < Q ∨ 1000 < l.length
  · rw [if_pos h3]
    repeat' (first | (refine GO ?_) | (refine GOE ?_; (first | (rintro _ _ ⟨rfl, rfl⟩) | (rintro _ _ ⟨g, rfl, rfl⟩) | (rintro _ _ ⟨A', c', rfl, rfl⟩))) | ((refine GO2 ?_ ?_) <;> intro h <;> (try (repeat (first | with_reducible (replace h := of_decide_eq_true h) | with_reducible (replace h := of_decide_eq_false h) | with_reducible (replace h := bnt h) | with_reducible (replace h := bnf h) | with_reducible (replace h := Int.not_lt.mp h) | with_reducible (replace h := Int.not_le.mp h) | with_reducible (replace h := band_dec h) | with_reducible (replace h := band_decF h) | with_reducible (replace h := bor_dec h) | with_reducible (replace h := bor_decF h)))) <;> (try (exfalso; first | contradiction | omega))) | fail)
    all_goals first
      | (exfalso; omega)
      | ((refine At_ret Try.results7 rfl (fun w' hw => ?_)); exact ⟨rfl, hw.below0 rfl⟩)
  rw [if_neg h3]
  have hbad : ∀ i (hi : i < l.length), ¬ (1 ≤ l[i].kind ∧ l[i].kind ≤ 4 ∧ (l[i].kind = 1 → 0 ≤ l[i].a ∧ l[i].a < ps.length) ∧ (l[i].kind = 4 → 0 ≤ l[i].a ∧ l[i].a < n)) → (if l.all (actB n ps.length) = true then (0 : Int) else 1) = 1 := fun i hi hb => by
    rw [if_neg]
    rw [all_no hi (decide_eq_false hb)]; decide
  have hgood : (∀ i (hi : i < l.length), 1 ≤ l[i].kind ∧ l[i].kind ≤ 4 ∧ (l[i].kind = 1 → 0 ≤ l[i].a ∧ l[i].a < ps.length) ∧ (l[i].kind = 4 → 0 ≤ l[i].a ∧ l[i].a < n)) → (if l.all (actB n ps.length) = true then (0 : Int) else 1) = 0 := fun hg => by
    have hall : l.all (actB n ps.length) = true := all_at fun i hi => decide_eq_true (hg i hi)
    rw [if_pos hall]
  generalize (if l.all (actB n ps.length) = true then (0 : Int) else 1) = R at *
  repeat' (first | (refine GO ?_) | (refine GOE ?_; (first | (rintro _ _ ⟨rfl, rfl⟩) | (rintro _ _ ⟨g, rfl, rfl⟩) | (rintro _ _ ⟨A', c', rfl, rfl⟩))) | ((refine GO2 ?_ ?_) <;> intro h <;> (try (repeat (first | with_reducible (replace h := of_decide_eq_true h) | with_reducible (replace h := of_decide_eq_false h) | with_reducible (replace h := bnt h) | with_reducible (replace h := bnf h) | with_reducible (replace h := Int.not_lt.mp h) | with_reducible (replace h := Int.not_le.mp h) | with_reducible (replace h := band_dec h) | with_reducible (replace h := band_decF h) | with_reducible (replace h := bor_dec h) | with_reducible (replace h := bor_decF h)))) <;> (try (exfalso; first | contradiction | omega))) | fail)
  all_goals first | (exfalso; omega) | skip
  refine T_loop (X := Nat) (fun k => [(42, .int .i64 (k : Nat)), (41, .int .i64 l.length), (40, .slice B0 l.length d0), (0, .int .i64 n), (1, .slice D0 hs.length e0)]) (fun _ => []) (fun k => k ≤ l.length ∧ ∀ i (hi : i < l.length), i < k → 1 ≤ l[i].kind ∧ l[i].kind ≤ 4 ∧ (l[i].kind = 1 → 0 ≤ l[i].a ∧ l[i].a < ps.length) ∧ (l[i].kind = 4 → 0 ≤ l[i].a ∧ l[i].a < n)) (fun k => l.length - k) 0 ⟨by omega, fun i _ hi => by omega⟩ (by (repeat (first | exact SubE.nil _ | refine SubE.cons rfl ?_))) (by exact SUBS) ?_
  rintro k ⟨hk, hno⟩
  by_cases hkl : k < l.length
  · obtain ⟨bC, oC, rfl, _⟩ := RdE.open hB (by omega)
    have hb := hbad k hkl
    have hnx : (1 ≤ l[k].kind ∧ l[k].kind ≤ 4 ∧ (l[k].kind = 1 → 0 ≤ l[k].a ∧ l[k].a < ps.length) ∧ (l[k].kind = 4 → 0 ≤ l[k].a ∧ l[k].a < n)) → ∀ i (hi : i < l.length), i < k + 1 → 1 ≤ l[i].kind ∧ l[i].kind ≤ 4 ∧ (l[i].kind = 1 → 0 ≤ l[i].a ∧ l[i].a < ps.length) ∧ (l[i].kind = 4 → 0 ≤ l[i].a ∧ l[i].a < n) := fun hb i hi h2 => (Nat.lt_succ_iff_lt_or_eq.1 h2).elim (fun e => hno i hi e) (fun e => by subst e; exact hb)
    clear hbad hgood hno
    repeat' (first | (refine GO ?_) | (refine GOE ?_; (first | (rintro _ _ ⟨rfl, rfl⟩) | (rintro _ _ ⟨g, rfl, rfl⟩) | (rintro _ _ ⟨A', c', rfl, rfl⟩))) | ((refine GO2 ?_ ?_) <;> intro h <;> (try (repeat (first | with_reducible (replace h := of_decide_eq_true h) | with_reducible (replace h := of_decide_eq_false h) | with_reducible (replace h := bnt h) | with_reducible (replace h := bnf h) | with_reducible (replace h := Int.not_lt.mp h) | with_reducible (replace h := Int.not_le.mp h) | with_reducible (replace h := band_dec h) | with_reducible (replace h := band_decF h) | with_reducible (replace h := bor_dec h) | with_reducible (replace h := bor_decF h)))) <;> (try (exfalso; first | contradiction | omega))) | ((with_reducible (first | apply TD_e2z | apply TD_e3z | apply TL_e | apply TD_e2 | apply TD_e3)); ((with_reducible apply ES_callV (f := 30)); exact rfl; (intro w hw; exact hck _ w (rd_blk1 hw (by first | ((repeat (first | with_reducible exact List.mem_cons_self | with_reducible apply List.mem_cons_of_mem)); done) | (repeat (first | exact List.Mem.head _ | apply List.Mem.tail)))) (hrows rfl rfl hw)); exact rfl); (first | exact rfl | exact ⟨rfl, rfl, rfl⟩); (rintro _ _ ⟨rfl, rfl⟩); (try refine ⟨SUB, ?_⟩)) | ((with_reducible (first | apply TD_e2z | apply TD_e3z | apply TL_e | apply TD_e2 | apply TD_e3)); ((with_reducible apply ES_callV (f := 20)); exact rfl; (intro w hw; exact between_C _ _ _ w); exact rfl); (first | exact rfl | exact ⟨rfl, rfl, rfl⟩); (rintro _ _ ⟨rfl, rfl⟩); (try refine ⟨SUB, ?_⟩)) | fail)
    all_goals first
      | (exfalso; omega)
      | ((refine At_ret Try.results7 rfl (fun w' hw => ?_)); obtain rfl := hb (by omega); exact ⟨rfl, hw.below0 rfl⟩)
      | exact At_rounds (k + 1) ⟨hkl, hnx (by omega)⟩ (by omega) (by (repeat (first | exact SubE.nil _ | refine SubE.cons rfl ?_))) (by exact SUBS)
  · obtain rfl : k = l.length := by omega
    obtain rfl := hgood fun i hi => hno i hi hi
    repeat' (first | (refine GO ?_) | (refine GOE ?_; (first | (rintro _ _ ⟨rfl, rfl⟩) | (rintro _ _ ⟨g, rfl, rfl⟩) | (rintro _ _ ⟨A', c', rfl, rfl⟩))) | ((refine GO2 ?_ ?_) <;> intro h <;> (try (repeat (first | with_reducible (replace h := of_decide_eq_true h) | with_reducible (replace h := of_decide_eq_false h) | with_reducible (replace h := bnt h) | with_reducible (replace h := bnf h) | with_reducible (replace h := Int.not_lt.mp h) | with_reducible (replace h := Int.not_le.mp h) | with_reducible (replace h := band_dec h) | with_reducible (replace h := band_decF h) | with_reducible (replace h := bor_dec h) | with_reducible (replace h := bor_decF h)))) <;> (try (exfalso; first | contradiction | omega))) | fail)
    (refine At_ret Try.results7 rfl (fun w' hw => ?_))
    exact ⟨rfl, hw.below0 rfl⟩
end
end Go.Proofs.Ytaonijdhmgcbjaa
