/- Lemmas for the walks (Zn9, ZnC). No condition. -/
import Derived.Test.YtaonijdhmgcbjaaG07
import Derived.Test.YtaonijdhmgcbjaaG05
import Derived.Test.YtaonijdhmgcbjaaG09
set_option linter.unusedSimpArgs false
set_option linter.unusedVariables false
set_option linter.unusedSectionVars false
set_option linter.unnecessarySimpa false
namespace Go.Proofs.Ytaonijdhmgcbjaa
open Go.RowKit
theorem QSarm_Zn9 {p : Prop} (h : p := by (first | ((with_reducible apply QS_index (o' := oz + k * 4)); exact rfl; exact rfl; omega; omega) | ((with_reducible apply QS_sliceLowZ (l := i + 1)); exact rfl; exact rfl; omega; omega) | exact QS.auto)) : p := h
set_option linter.unusedSectionVars false

section
variable {P : Program} {C : Ctx} {E : Slots} {S : List Ent} {t e m g p n c ty : Nat} {x y : Operand}
/-- the end of a slice, from a place that an integer names; past the last cell the address stays -/
theorem QS_sliceLowZ [hs : SliceOf P t e m] {k : IntKind} {l : Nat} {z : Int} (hx : evo E x = some (.slice (some ⟨g, p, none⟩) n c)) (hy : evo E y = some (.int k z)) (hz : z = (l : Nat)) (hl : l ≤ n) :
    QS P C E S (.slice t x (some y) none none) ty (.slice (some ⟨g, if c = l then p else p + l * m, none⟩) (n - l) (c - l)) :=
  QS_sliceLow hx (by rw [hy, hz]) hl
end
set_option maxRecDepth 100000 in
theorem zmeet_any (a b : Zon) (w : World) : Calls Try.prog 66 #[.agg (Zon.enc a).toArray, .agg (Zon.enc b).toArray] w fun e w' => e = .returned (.bool (meetB a b)) ∧ Below w.heap.size w w' := by
  unfold meetB
  refine calls_T (S := []) [] Try.func66 rfl Try.ntmps66 (by simp) (Mem.nil _) ?_
  repeat' (first | ((first | with_reducible (first | apply TL_q | apply TD_q0 | apply TD_q1 | apply TD_q2 | apply TD_q3) | ((with_reducible (first | apply TD_q0y | apply TD_q1y)); exact rfl; exact rfl; (with_reducible exact rfl))); exact QSarm_Zn9; exact rfl) | (refine GO ?_) | (refine GOE ?_; (first | (rintro _ _ ⟨rfl, rfl⟩) | (rintro _ _ ⟨g, rfl, rfl⟩) | (rintro _ _ ⟨A', c', rfl, rfl⟩))) | ((refine GO2 ?_ ?_) <;> intro h <;> (try (repeat (first | with_reducible (replace h := of_decide_eq_true h) | with_reducible (replace h := of_decide_eq_false h) | with_reducible (replace h := bnt h) | with_reducible (replace h := bnf h) | with_reducible (replace h := Int.not_lt.mp h) | with_reducible (replace h := Int.not_le.mp h) | with_reducible (replace h := band_dec h) | with_reducible (replace h := band_decF h) | with_reducible (replace h := bor_dec h) | with_reducible (replace h := bor_decF h)))) <;> (try (exfalso; first | contradiction | omega))) | fail)
  all_goals
    refine At_ret Try.results66 rfl (fun w' hw => ?_)
    refine ⟨?_, hw.below0 rfl⟩
    congr 2
    first | (simp [*, resVal]; done) | (simp [*, resVal]; omega)
theorem zoI_eq {Z : List Zon} {i : Nat} (hi : i < Z.length) : zoI Z i = Z[i] := by unfold zoI; rw [List.getD_eq_getElem?_getD, List.getElem?_eq_getElem hi]; rfl
theorem crossB_eq {Z : List Zon} {i k : Nat} (hi : i < Z.length) (hk : k < Z.length) : crossB Z i k = (decide (i < k) && (Z[i].fwd && (Z[k].fwd && meetB Z[i] Z[k]))) := by unfold crossB; rw [zoI_eq hi, zoI_eq hk]
theorem insideB_eq {Z : List Zon} {i k : Nat} (hi : i < Z.length) (hk : k < Z.length) : insideB Z i k = (Z[i].fwd && (!Z[k].fwd && meetB Z[i] Z[k])) := by unfold insideB; rw [zoI_eq hi, zoI_eq hk]
theorem crossB_le {Z : List Zon} {i q : Nat} (h : q ≤ i) : crossB Z i q = false := by unfold crossB; rw [decide_eq_false (by omega)]; rfl
theorem pairsV_cross {Z : List Zon} {i k : Nat} (hi : i < Z.length) (hk : k < Z.length) (h1 : ∀ j, j < i → ∀ q, q < Z.length → crossB Z j q = false) (h2 : ∀ q, q < k → crossB Z i q = false) (h : crossB Z i k = true) : pairsV Z = ⟨4, Z[i].value, Z[k].value⟩ := by
  unfold pairsV
  rw [firstP_at hi hk h1 h2 h]
  dsimp only
  rw [zoI_eq hi, zoI_eq hk]
theorem pairsV_inside {Z : List Zon} {i k : Nat} (h0 : ∀ j, j < Z.length → ∀ q, q < Z.length → crossB Z j q = false) (hi : i < Z.length) (hk : k < Z.length) (h1 : ∀ j, j < i → ∀ q, q < Z.length → insideB Z j q = false) (h2 : ∀ q, q < k → insideB Z i q = false) (h : insideB Z i k = true) : pairsV Z = ⟨5, Z[i].value, Z[k].value⟩ := by
  unfold pairsV
  rw [firstP_none h0, firstP_at hi hk h1 h2 h]
  dsimp only
  rw [zoI_eq hi, zoI_eq hk]
theorem pairsV_none {Z : List Zon} (h0 : ∀ j, j < Z.length → ∀ q, q < Z.length → crossB Z j q = false) (h1 : ∀ j, j < Z.length → ∀ q, q < Z.length → insideB Z j q = false) : pairsV Z = ⟨0, 0, 0⟩ := by
  unfold pairsV
  rw [firstP_none h0, firstP_none h1]
section
variable (A : Option Addr) (c : Nat) (Z : List Zon) (w : World) (hl : Z.length ≤ 2000) (hlc : Z.length ≤ c) (hA : RdE Zon.enc 4 w A Z)
include hl hlc hA
set_option maxRecDepth 100000 in
set_option maxHeartbeats 8000000 in
theorem zpairs_any : Calls Try.prog 37 #[.slice A Z.length c] w fun e w' => e = .returned (.agg (Bd.enc (pairsV Z)).toArray) ∧ Below w.heap.size w w' := by
  have hR1 := fun i k hi hk h1 h2 h => pairsV_cross (Z := Z) (i := i) (k := k) hi hk h1 h2 h
  have hR2 := fun h0 i k hi hk h1 h2 h => pairsV_inside (Z := Z) h0 (i := i) (k := k) hi hk h1 h2 h
  have hR3 := fun h0 h1 => pairsV_none (Z := Z) h0 h1
  generalize pairsV Z = R at *
  by_cases h0 : Z.length = 0
  · have hR := hR3 (fun j hj => by omega) (fun j hj => by omega)
    subst hR
    rw [h0]
    refine calls_T (S := []) [] Try.func37 rfl Try.ntmps37 (by simp) (Mem.nil _) ?_
    repeat' (first | ((first | with_reducible (first | apply TL_q | apply TD_q0 | apply TD_q1 | apply TD_q2 | apply TD_q3) | ((with_reducible (first | apply TD_q0y | apply TD_q1y)); exact rfl; exact rfl; (with_reducible exact rfl))); exact QSarm_Zn9; exact rfl) | (refine GO ?_) | (refine GOE ?_; (first | (rintro _ _ ⟨rfl, rfl⟩) | (rintro _ _ ⟨g, rfl, rfl⟩) | (rintro _ _ ⟨A', c', rfl, rfl⟩))) | ((refine GO2 ?_ ?_) <;> intro h <;> (try (repeat (first | with_reducible (replace h := of_decide_eq_true h) | with_reducible (replace h := of_decide_eq_false h) | with_reducible (replace h := bnt h) | with_reducible (replace h := bnf h) | with_reducible (replace h := Int.not_lt.mp h) | with_reducible (replace h := Int.not_le.mp h) | with_reducible (replace h := band_dec h) | with_reducible (replace h := band_decF h) | with_reducible (replace h := bor_dec h) | with_reducible (replace h := bor_decF h)))) <;> (try (exfalso; first | contradiction | omega))) | fail)
    obtain ⟨gb, rfl⟩ : ∃ x, x = g := ⟨_, rfl⟩
    refine T_loop (X := Unit) (fun _ => [(14, .int .i64 0), (13, .int .i64 (0 : Nat)), (3, .func (.func 66) #[] [].toArray), (2, .pointer (some ⟨gb, 0, none⟩)), (0, .slice A 0 c)]) (fun _ => [entBlk gb 43 #[.int .i64 0, .int .i64 0, .int .i64 0]]) (fun _ => True) (fun _ => 0) () trivial (by (repeat (first | exact SubE.nil _ | refine SubE.cons rfl ?_))) (by exact SUBS) ?_
    rintro _ _
    repeat' (first | ((first | with_reducible (first | apply TL_q | apply TD_q0 | apply TD_q1 | apply TD_q2 | apply TD_q3) | ((with_reducible (first | apply TD_q0y | apply TD_q1y)); exact rfl; exact rfl; (with_reducible exact rfl))); exact QSarm_Zn9; exact rfl) | (refine GO ?_) | (refine GOE ?_; (first | (rintro _ _ ⟨rfl, rfl⟩) | (rintro _ _ ⟨g, rfl, rfl⟩) | (rintro _ _ ⟨A', c', rfl, rfl⟩))) | ((refine GO2 ?_ ?_) <;> intro h <;> (try (repeat (first | with_reducible (replace h := of_decide_eq_true h) | with_reducible (replace h := of_decide_eq_false h) | with_reducible (replace h := bnt h) | with_reducible (replace h := bnf h) | with_reducible (replace h := Int.not_lt.mp h) | with_reducible (replace h := Int.not_le.mp h) | with_reducible (replace h := band_dec h) | with_reducible (replace h := band_decF h) | with_reducible (replace h := bor_dec h) | with_reducible (replace h := bor_decF h)))) <;> (try (exfalso; first | contradiction | omega))) | fail)
    refine T_loop (X := Unit) (fun _ => [(49, .int .i64 0), (48, .int .i64 (0 : Nat)), (3, .func (.func 66) #[] [].toArray), (2, .pointer (some ⟨gb, 0, none⟩)), (0, .slice A 0 c)]) (fun _ => [entBlk gb 43 #[.int .i64 0, .int .i64 0, .int .i64 0]]) (fun _ => True) (fun _ => 0) () trivial (by (repeat (first | exact SubE.nil _ | refine SubE.cons rfl ?_))) (by exact SUBS) ?_
    rintro _ _
    repeat' (first | ((first | with_reducible (first | apply TL_q | apply TD_q0 | apply TD_q1 | apply TD_q2 | apply TD_q3) | ((with_reducible (first | apply TD_q0y | apply TD_q1y)); exact rfl; exact rfl; (with_reducible exact rfl))); exact QSarm_Zn9; exact rfl) | (refine GO ?_) | (refine GOE ?_; (first | (rintro _ _ ⟨rfl, rfl⟩) | (rintro _ _ ⟨g, rfl, rfl⟩) | (rintro _ _ ⟨A', c', rfl, rfl⟩))) | ((refine GO2 ?_ ?_) <;> intro h <;> (try (repeat (first | with_reducible (replace h := of_decide_eq_true h) | with_reducible (replace h := of_decide_eq_false h) | with_reducible (replace h := bnt h) | with_reducible (replace h := bnf h) | with_reducible (replace h := Int.not_lt.mp h) | with_reducible (replace h := Int.not_le.mp h) | with_reducible (replace h := band_dec h) | with_reducible (replace h := band_decF h) | with_reducible (replace h := bor_dec h) | with_reducible (replace h := bor_decF h)))) <;> (try (exfalso; first | contradiction | omega))) | fail)
    ((with_reducible apply At_retM Try.results37); (repeat (first | exact ResIs.nil | (apply ResIs.tmp; exact rfl) | (apply ResIs.cell; exact rfl; exact Lds.auto))); intro w' hw)
    exact ⟨rfl, hw.below0 rfl⟩
  obtain ⟨bz, oz, rfl, _⟩ := RdE.open hA (by omega)
  refine calls_T (S := []) [] Try.func37 rfl Try.ntmps37 (by simp) (Mem.nil _) ?_
  repeat' (first | ((first | with_reducible (first | apply TL_q | apply TD_q0 | apply TD_q1 | apply TD_q2 | apply TD_q3) | ((with_reducible (first | apply TD_q0y | apply TD_q1y)); exact rfl; exact rfl; (with_reducible exact rfl))); exact QSarm_Zn9; exact rfl) | (refine GO ?_) | (refine GOE ?_; (first | (rintro _ _ ⟨rfl, rfl⟩) | (rintro _ _ ⟨g, rfl, rfl⟩) | (rintro _ _ ⟨A', c', rfl, rfl⟩))) | ((refine GO2 ?_ ?_) <;> intro h <;> (try (repeat (first | with_reducible (replace h := of_decide_eq_true h) | with_reducible (replace h := of_decide_eq_false h) | with_reducible (replace h := bnt h) | with_reducible (replace h := bnf h) | with_reducible (replace h := Int.not_lt.mp h) | with_reducible (replace h := Int.not_le.mp h) | with_reducible (replace h := band_dec h) | with_reducible (replace h := band_decF h) | with_reducible (replace h := bor_dec h) | with_reducible (replace h := bor_decF h)))) <;> (try (exfalso; first | contradiction | omega))) | fail)
  obtain ⟨gb, rfl⟩ : ∃ x, x = g := ⟨_, rfl⟩
  refine T_loop (X := Nat) (fun i => [(14, .int .i64 (i : Nat)), (13, .int .i64 Z.length), (12, .slice (some ⟨bz, oz, none⟩) Z.length c), (3, .func (.func 66) #[] [].toArray), (2, .pointer (some ⟨gb, 0, none⟩)), (0, .slice (some ⟨bz, oz, none⟩) Z.length c)]) (fun _ => [entBlk gb 43 #[.int .i64 0, .int .i64 0, .int .i64 0]])
    (fun i => i ≤ Z.length ∧ ∀ j, j < i → ∀ q, q < Z.length → crossB Z j q = false) (fun i => Z.length - i) 0 ⟨by omega, fun j hj => by omega⟩ (by (repeat (first | exact SubE.nil _ | refine SubE.cons rfl ?_))) (by exact SUBS) ?_
  rintro i ⟨hi, hno⟩
  by_cases hil : i < Z.length
  · have hde := fun q (h : i < q) (hq : q < Z.length) => crossB_eq (Z := Z) hil hq
    have hRi := hR1 i
    have hle := fun q (h : q ≤ i) => crossB_le (Z := Z) h
    clear hR1 hR2 hR3
    repeat' (first | ((first | with_reducible (first | apply TL_q | apply TD_q0 | apply TD_q1 | apply TD_q2 | apply TD_q3) | ((with_reducible (first | apply TD_q0y | apply TD_q1y)); exact rfl; exact rfl; (with_reducible exact rfl))); exact QSarm_Zn9; exact rfl) | (refine GO ?_) | (refine GOE ?_; (first | (rintro _ _ ⟨rfl, rfl⟩) | (rintro _ _ ⟨g, rfl, rfl⟩) | (rintro _ _ ⟨A', c', rfl, rfl⟩))) | ((refine GO2 ?_ ?_) <;> intro h <;> (try (repeat (first | with_reducible (replace h := of_decide_eq_true h) | with_reducible (replace h := of_decide_eq_false h) | with_reducible (replace h := bnt h) | with_reducible (replace h := bnf h) | with_reducible (replace h := Int.not_lt.mp h) | with_reducible (replace h := Int.not_le.mp h) | with_reducible (replace h := band_dec h) | with_reducible (replace h := band_decF h) | with_reducible (replace h := bor_dec h) | with_reducible (replace h := bor_decF h)))) <;> (try (exfalso; first | contradiction | omega))) | fail)
    obtain ⟨g5, rfl⟩ : ∃ x, x = g := ⟨_, rfl⟩
    refine T_loop (X := Nat) (fun j => [(24, .int .i64 (j : Nat)), (23, .int .i64 ((Z.length - (i + 1) : Nat) : Int)), (22, .slice (some ⟨bz, if c = i + 1 then oz else oz + (i + 1) * 4, none⟩) (Z.length - (i + 1)) (c - (i + 1))), (5, .pointer (some ⟨g5, 0, none⟩)), (14, .int .i64 (i : Nat)), (13, .int .i64 Z.length), (12, .slice (some ⟨bz, oz, none⟩) Z.length c), (3, .func (.func 66) #[] [].toArray), (2, .pointer (some ⟨gb, 0, none⟩)), (0, .slice (some ⟨bz, oz, none⟩) Z.length c)]) (fun _ => [entBlk g5 50 (Zon.enc Z[i]).toArray, entBlk gb 43 #[.int .i64 0, .int .i64 0, .int .i64 0]])
      (fun j => j ≤ Z.length - (i + 1) ∧ ∀ q, q < i + 1 + j → crossB Z i q = false) (fun j => Z.length - (i + 1) - j) 0 ⟨by omega, fun q hq => hle q (by omega)⟩ (by (repeat (first | exact SubE.nil _ | refine SubE.cons rfl ?_))) (by exact SUBS) ?_
    rintro j ⟨hj, hnj⟩
    by_cases hjl : j < Z.length - (i + 1)
    · rw [if_neg (show ¬ c = i + 1 by omega)]
      obtain ⟨k, hk⟩ : ∃ k, k = i + 1 + j := ⟨_, rfl⟩
      have hkl : k < Z.length := by omega
      have hcr := hde k (by omega) hkl
      have hmt := fun w => zmeet_any Z[i] Z[k] w
      have hRk := hRi k hil hkl hno (fun q hq => hnj q (by omega))
      generalize hmb : meetB Z[i] Z[k] = mb at hcr hmt
      rw [decide_eq_true (show i < k by omega), Bool.true_and] at hcr
      rw [hcr] at hRk
      have hnk : (Z[i].fwd && (Z[k].fwd && mb)) = false → ∀ q, q < i + 1 + (j + 1) → crossB Z i q = false := fun e q hq => (Nat.lt_succ_iff_lt_or_eq.1 (show q < (i + 1 + j) + 1 by omega)).elim (fun e2 => hnj q e2) (fun e2 => by rw [e2, ← hk, hcr]; exact e)
      have hn1 := fun h : Z[i].fwd = false => hnk (by rw [h]; rfl)
      have hn2 := fun h : Z[k].fwd = false => hnk (by rw [h, Bool.false_and, Bool.and_false])
      have hn3 := fun h : mb = false => hnk (by rw [h, Bool.and_false, Bool.and_false])
      have hn0 := fun (h1 : Z[i].fwd = true) (h2 : Z[k].fwd = true) (h3 : mb = true) => hRk (by rw [h1, h2, h3]; rfl)
      clear hde hno hnj hRi hcr hnk hRk
      repeat' (first | ((first | with_reducible (first | apply TL_q | apply TD_q0 | apply TD_q1 | apply TD_q2 | apply TD_q3) | ((with_reducible (first | apply TD_q0y | apply TD_q1y)); exact rfl; exact rfl; (with_reducible exact rfl))); exact QSarm_Zn9; exact rfl) | (refine GO ?_) | (refine GOE ?_; (first | (rintro _ _ ⟨rfl, rfl⟩) | (rintro _ _ ⟨g, rfl, rfl⟩) | (rintro _ _ ⟨A', c', rfl, rfl⟩))) | ((refine GO2 ?_ ?_) <;> intro h <;> (try (repeat (first | with_reducible (replace h := of_decide_eq_true h) | with_reducible (replace h := of_decide_eq_false h) | with_reducible (replace h := bnt h) | with_reducible (replace h := bnf h) | with_reducible (replace h := Int.not_lt.mp h) | with_reducible (replace h := Int.not_le.mp h) | with_reducible (replace h := band_dec h) | with_reducible (replace h := band_decF h) | with_reducible (replace h := bor_dec h) | with_reducible (replace h := bor_decF h)))) <;> (try (exfalso; first | contradiction | omega))) | ((with_reducible (first | apply TD_e2z | apply TD_e3z | apply TL_e | apply TD_e2 | apply TD_e3)); ((with_reducible apply ES_callFV (f := 66) (us := []) (cs := []) (vs := [.agg (Zon.enc Z[i]).toArray, .agg (Zon.enc Z[k]).toArray]) (v := .bool mb)); exact rfl; exact rfl; (intro w' hw; exact hmt w'); exact rfl); (first | exact rfl | exact ⟨rfl, rfl, rfl⟩); (rintro _ _ ⟨rfl, rfl⟩); (try refine ⟨SUB, ?_⟩)) | fail)
      all_goals first
        | exact At_rounds (j + 1) ⟨by omega, hn1 (by assumption)⟩ (by omega) (by (repeat (first | exact SubE.nil _ | refine SubE.cons rfl ?_))) (by exact SUBS)
        | exact At_rounds (j + 1) ⟨by omega, hn2 (by assumption)⟩ (by omega) (by (repeat (first | exact SubE.nil _ | refine SubE.cons rfl ?_))) (by exact SUBS)
        | exact At_rounds (j + 1) ⟨by omega, hn3 (by assumption)⟩ (by omega) (by (repeat (first | exact SubE.nil _ | refine SubE.cons rfl ?_))) (by exact SUBS)
        | (obtain rfl := hn0 (by assumption) (by assumption) (by assumption); ((with_reducible apply At_retM Try.results37); (repeat (first | exact ResIs.nil | (apply ResIs.tmp; exact rfl) | (apply ResIs.cell; exact rfl; exact Lds.auto))); intro w' hw); exact ⟨rfl, hw.below0 rfl⟩)
    · have hjn : j = Z.length - (i + 1) := by omega
      have hno2 : ∀ q, q < i + 1 → ∀ r, r < Z.length → crossB Z q r = false := fun q hq r hr => (Nat.lt_succ_iff_lt_or_eq.1 hq).elim (fun e => hno q e r hr) (fun e => by subst e; exact hnj r (by omega))
      clear hno hnj
      repeat' (first | ((first | with_reducible (first | apply TL_q | apply TD_q0 | apply TD_q1 | apply TD_q2 | apply TD_q3) | ((with_reducible (first | apply TD_q0y | apply TD_q1y)); exact rfl; exact rfl; (with_reducible exact rfl))); exact QSarm_Zn9; exact rfl) | (refine GO ?_) | (refine GOE ?_; (first | (rintro _ _ ⟨rfl, rfl⟩) | (rintro _ _ ⟨g, rfl, rfl⟩) | (rintro _ _ ⟨A', c', rfl, rfl⟩))) | ((refine GO2 ?_ ?_) <;> intro h <;> (try (repeat (first | with_reducible (replace h := of_decide_eq_true h) | with_reducible (replace h := of_decide_eq_false h) | with_reducible (replace h := bnt h) | with_reducible (replace h := bnf h) | with_reducible (replace h := Int.not_lt.mp h) | with_reducible (replace h := Int.not_le.mp h) | with_reducible (replace h := band_dec h) | with_reducible (replace h := band_decF h) | with_reducible (replace h := bor_dec h) | with_reducible (replace h := bor_decF h)))) <;> (try (exfalso; first | contradiction | omega))) | fail)
      all_goals exact At_rounds (i + 1) ⟨by omega, hno2⟩ (by omega) (by (repeat (first | exact SubE.nil _ | refine SubE.cons rfl ?_))) (by exact SUBS)
  · obtain rfl : i = Z.length := by omega
    have hR2 := hR2 hno
    have hR3 := hR3 hno
    clear hR1
    repeat' (first | ((first | with_reducible (first | apply TL_q | apply TD_q0 | apply TD_q1 | apply TD_q2 | apply TD_q3) | ((with_reducible (first | apply TD_q0y | apply TD_q1y)); exact rfl; exact rfl; (with_reducible exact rfl))); exact QSarm_Zn9; exact rfl) | (refine GO ?_) | (refine GOE ?_; (first | (rintro _ _ ⟨rfl, rfl⟩) | (rintro _ _ ⟨g, rfl, rfl⟩) | (rintro _ _ ⟨A', c', rfl, rfl⟩))) | ((refine GO2 ?_ ?_) <;> intro h <;> (try (repeat (first | with_reducible (replace h := of_decide_eq_true h) | with_reducible (replace h := of_decide_eq_false h) | with_reducible (replace h := bnt h) | with_reducible (replace h := bnf h) | with_reducible (replace h := Int.not_lt.mp h) | with_reducible (replace h := Int.not_le.mp h) | with_reducible (replace h := band_dec h) | with_reducible (replace h := band_decF h) | with_reducible (replace h := bor_dec h) | with_reducible (replace h := bor_decF h)))) <;> (try (exfalso; first | contradiction | omega))) | fail)
    refine T_loop (X := Nat) (fun i => [(49, .int .i64 (i : Nat)), (48, .int .i64 Z.length), (47, .slice (some ⟨bz, oz, none⟩) Z.length c), (3, .func (.func 66) #[] [].toArray), (2, .pointer (some ⟨gb, 0, none⟩)), (0, .slice (some ⟨bz, oz, none⟩) Z.length c)]) (fun _ => [entBlk gb 43 #[.int .i64 0, .int .i64 0, .int .i64 0]])
      (fun i => i ≤ Z.length ∧ ∀ j, j < i → ∀ q, q < Z.length → insideB Z j q = false) (fun i => Z.length - i) 0 ⟨by omega, fun j hj => by omega⟩ (by (repeat (first | exact SubE.nil _ | refine SubE.cons rfl ?_))) (by exact SUBS) ?_
    clear hno hi hil
    rintro i ⟨hi, hno⟩
    by_cases hil : i < Z.length
    · have hde := fun q (hq : q < Z.length) => insideB_eq (Z := Z) hil hq
      have hRi := hR2 i
      clear hR2 hR3
      repeat' (first | ((first | with_reducible (first | apply TL_q | apply TD_q0 | apply TD_q1 | apply TD_q2 | apply TD_q3) | ((with_reducible (first | apply TD_q0y | apply TD_q1y)); exact rfl; exact rfl; (with_reducible exact rfl))); exact QSarm_Zn9; exact rfl) | (refine GO ?_) | (refine GOE ?_; (first | (rintro _ _ ⟨rfl, rfl⟩) | (rintro _ _ ⟨g, rfl, rfl⟩) | (rintro _ _ ⟨A', c', rfl, rfl⟩))) | ((refine GO2 ?_ ?_) <;> intro h <;> (try (repeat (first | with_reducible (replace h := of_decide_eq_true h) | with_reducible (replace h := of_decide_eq_false h) | with_reducible (replace h := bnt h) | with_reducible (replace h := bnf h) | with_reducible (replace h := Int.not_lt.mp h) | with_reducible (replace h := Int.not_le.mp h) | with_reducible (replace h := band_dec h) | with_reducible (replace h := band_decF h) | with_reducible (replace h := bor_dec h) | with_reducible (replace h := bor_decF h)))) <;> (try (exfalso; first | contradiction | omega))) | fail)
      obtain ⟨g5, rfl⟩ : ∃ x, x = g := ⟨_, rfl⟩
      refine T_loop (X := Nat) (fun j => [(55, .int .i64 (j : Nat)), (54, .int .i64 Z.length), (53, .slice (some ⟨bz, oz, none⟩) Z.length c), (9, .pointer (some ⟨g5, 0, none⟩)), (49, .int .i64 (i : Nat)), (48, .int .i64 Z.length), (47, .slice (some ⟨bz, oz, none⟩) Z.length c), (3, .func (.func 66) #[] [].toArray), (2, .pointer (some ⟨gb, 0, none⟩)), (0, .slice (some ⟨bz, oz, none⟩) Z.length c)]) (fun _ => [entBlk g5 50 (Zon.enc Z[i]).toArray, entBlk gb 43 #[.int .i64 0, .int .i64 0, .int .i64 0]])
        (fun j => j ≤ Z.length ∧ ∀ q, q < j → insideB Z i q = false) (fun j => Z.length - j) 0 ⟨by omega, fun q hq => by omega⟩ (by (repeat (first | exact SubE.nil _ | refine SubE.cons rfl ?_))) (by exact SUBS) ?_
      rintro k ⟨hk, hnj⟩
      by_cases hkl : k < Z.length
      · have hcr := hde k hkl
        have hmt := fun w => zmeet_any Z[i] Z[k] w
        have hRk := hRi k hil hkl hno hnj
        generalize hmb : meetB Z[i] Z[k] = mb at hcr hmt
        rw [hcr] at hRk
        have hnk : (Z[i].fwd && (!Z[k].fwd && mb)) = false → ∀ q, q < k + 1 → insideB Z i q = false := fun e q hq => (Nat.lt_succ_iff_lt_or_eq.1 hq).elim (fun e2 => hnj q e2) (fun e2 => by subst e2; rw [hcr]; exact e)
        have hn1 := fun h : Z[i].fwd = false => hnk (by rw [h]; rfl)
        have hn2 := fun h : Z[k].fwd = true => hnk (by rw [h, Bool.not_true, Bool.false_and, Bool.and_false])
        have hn2' := fun h : (!Z[k].fwd) = false => hnk (by rw [h, Bool.false_and, Bool.and_false])
        have hn3 := fun h : mb = false => hnk (by rw [h, Bool.and_false, Bool.and_false])
        have hn0 := fun (h1 : Z[i].fwd = true) (h2 : Z[k].fwd = false) (h3 : mb = true) => hRk (by rw [h1, h2, h3]; rfl)
        have hn0' := fun (h1 : Z[i].fwd = true) (h2 : (!Z[k].fwd) = true) (h3 : mb = true) => hRk (by rw [h1, h2, h3]; rfl)
        clear hde hno hnj hRi hcr hnk hRk
        repeat' (first | ((first | with_reducible (first | apply TL_q | apply TD_q0 | apply TD_q1 | apply TD_q2 | apply TD_q3) | ((with_reducible (first | apply TD_q0y | apply TD_q1y)); exact rfl; exact rfl; (with_reducible exact rfl))); exact QSarm_Zn9; exact rfl) | (refine GO ?_) | (refine GOE ?_; (first | (rintro _ _ ⟨rfl, rfl⟩) | (rintro _ _ ⟨g, rfl, rfl⟩) | (rintro _ _ ⟨A', c', rfl, rfl⟩))) | ((refine GO2 ?_ ?_) <;> intro h <;> (try (repeat (first | with_reducible (replace h := of_decide_eq_true h) | with_reducible (replace h := of_decide_eq_false h) | with_reducible (replace h := bnt h) | with_reducible (replace h := bnf h) | with_reducible (replace h := Int.not_lt.mp h) | with_reducible (replace h := Int.not_le.mp h) | with_reducible (replace h := band_dec h) | with_reducible (replace h := band_decF h) | with_reducible (replace h := bor_dec h) | with_reducible (replace h := bor_decF h)))) <;> (try (exfalso; first | contradiction | omega))) | ((with_reducible (first | apply TD_e2z | apply TD_e3z | apply TL_e | apply TD_e2 | apply TD_e3)); ((with_reducible apply ES_callFV (f := 66) (us := []) (cs := []) (vs := [.agg (Zon.enc Z[i]).toArray, .agg (Zon.enc Z[k]).toArray]) (v := .bool mb)); exact rfl; exact rfl; (intro w' hw; exact hmt w'); exact rfl); (first | exact rfl | exact ⟨rfl, rfl, rfl⟩); (rintro _ _ ⟨rfl, rfl⟩); (try refine ⟨SUB, ?_⟩)) | fail)
        all_goals first
          | exact At_rounds (k + 1) ⟨by omega, hn1 (by assumption)⟩ (by omega) (by (repeat (first | exact SubE.nil _ | refine SubE.cons rfl ?_))) (by exact SUBS)
          | exact At_rounds (k + 1) ⟨by omega, hn2 (by assumption)⟩ (by omega) (by (repeat (first | exact SubE.nil _ | refine SubE.cons rfl ?_))) (by exact SUBS)
          | exact At_rounds (k + 1) ⟨by omega, hn2' (by assumption)⟩ (by omega) (by (repeat (first | exact SubE.nil _ | refine SubE.cons rfl ?_))) (by exact SUBS)
          | exact At_rounds (k + 1) ⟨by omega, hn3 (by assumption)⟩ (by omega) (by (repeat (first | exact SubE.nil _ | refine SubE.cons rfl ?_))) (by exact SUBS)
          | (obtain rfl := hn0 (by assumption) (by assumption) (by assumption); ((with_reducible apply At_retM Try.results37); (repeat (first | exact ResIs.nil | (apply ResIs.tmp; exact rfl) | (apply ResIs.cell; exact rfl; exact Lds.auto))); intro w' hw); exact ⟨rfl, hw.below0 rfl⟩)
          | (obtain rfl := hn0' (by assumption) (by assumption) (by assumption); ((with_reducible apply At_retM Try.results37); (repeat (first | exact ResIs.nil | (apply ResIs.tmp; exact rfl) | (apply ResIs.cell; exact rfl; exact Lds.auto))); intro w' hw); exact ⟨rfl, hw.below0 rfl⟩)
      · obtain rfl : k = Z.length := by omega
        have hno2 : ∀ q, q < i + 1 → ∀ r, r < Z.length → insideB Z q r = false := fun q hq r hr => (Nat.lt_succ_iff_lt_or_eq.1 hq).elim (fun e => hno q e r hr) (fun e => by subst e; exact hnj r hr)
        clear hno hnj
        repeat' (first | ((first | with_reducible (first | apply TL_q | apply TD_q0 | apply TD_q1 | apply TD_q2 | apply TD_q3) | ((with_reducible (first | apply TD_q0y | apply TD_q1y)); exact rfl; exact rfl; (with_reducible exact rfl))); exact QSarm_Zn9; exact rfl) | (refine GO ?_) | (refine GOE ?_; (first | (rintro _ _ ⟨rfl, rfl⟩) | (rintro _ _ ⟨g, rfl, rfl⟩) | (rintro _ _ ⟨A', c', rfl, rfl⟩))) | ((refine GO2 ?_ ?_) <;> intro h <;> (try (repeat (first | with_reducible (replace h := of_decide_eq_true h) | with_reducible (replace h := of_decide_eq_false h) | with_reducible (replace h := bnt h) | with_reducible (replace h := bnf h) | with_reducible (replace h := Int.not_lt.mp h) | with_reducible (replace h := Int.not_le.mp h) | with_reducible (replace h := band_dec h) | with_reducible (replace h := band_decF h) | with_reducible (replace h := bor_dec h) | with_reducible (replace h := bor_decF h)))) <;> (try (exfalso; first | contradiction | omega))) | fail)
        all_goals exact At_rounds (i + 1) ⟨by omega, hno2⟩ (by omega) (by (repeat (first | exact SubE.nil _ | refine SubE.cons rfl ?_))) (by exact SUBS)
    · obtain rfl : i = Z.length := by omega
      obtain rfl := hR3 hno
      repeat' (first | ((first | with_reducible (first | apply TL_q | apply TD_q0 | apply TD_q1 | apply TD_q2 | apply TD_q3) | ((with_reducible (first | apply TD_q0y | apply TD_q1y)); exact rfl; exact rfl; (with_reducible exact rfl))); exact QSarm_Zn9; exact rfl) | (refine GO ?_) | (refine GOE ?_; (first | (rintro _ _ ⟨rfl, rfl⟩) | (rintro _ _ ⟨g, rfl, rfl⟩) | (rintro _ _ ⟨A', c', rfl, rfl⟩))) | ((refine GO2 ?_ ?_) <;> intro h <;> (try (repeat (first | with_reducible (replace h := of_decide_eq_true h) | with_reducible (replace h := of_decide_eq_false h) | with_reducible (replace h := bnt h) | with_reducible (replace h := bnf h) | with_reducible (replace h := Int.not_lt.mp h) | with_reducible (replace h := Int.not_le.mp h) | with_reducible (replace h := band_dec h) | with_reducible (replace h := band_decF h) | with_reducible (replace h := bor_dec h) | with_reducible (replace h := bor_decF h)))) <;> (try (exfalso; first | contradiction | omega))) | fail)
      ((with_reducible apply At_retM Try.results37); (repeat (first | exact ResIs.nil | (apply ResIs.tmp; exact rfl) | (apply ResIs.cell; exact rfl; exact Lds.auto))); intro w' hw)
      exact ⟨rfl, hw.below0 rfl⟩
end
end Go.Proofs.Ytaonijdhmgcbjaa

namespace Go.Proofs.Ytaonijdhmgcbjaa
open Go.RowKit
set_option linter.unusedSectionVars false

theorem wonce_ok {l : List Ev} (h : (wonceR l).2 = 0) : RgOk (wonceR l).1 := by
  by_cases h1 : (callsR [1] l).2.2 = 0
  · by_cases h2 : (List.range (callsR [1] l).1.length).any (againB (callsR [1] l).1) = true
    · obtain ⟨i, hi, hb⟩ := List.any_eq_true.1 h2
      rw [wonceR_bad h1 (List.mem_range.1 hi) hb] at h
      cases h
    · have h3 : ∀ i, i < (callsR [1] l).1.length → againB (callsR [1] l).1 i = false := fun i hi => by
        have := List.any_eq_false.1 (Bool.eq_false_iff.2 h2) i (List.mem_range.2 hi)
        simpa using this
      rw [wonceR_ok h1 h3]
      exact rgOk_of (rgAll_of h1) h3
  · rw [wonceR_err h1] at h
    exact absurd h h1
def zsV (l : List Ev) : List Zon := if (wonceR l).2 = 0 then zonL (wonceR l).1 1001 else []
def zcV (l : List Ev) : Bd := if (wonceR l).2 = 0 then zonesV (wonceR l).1 else ⟨0, 0, 0⟩
section
variable (B0 : Option Addr) (d0 : Nat) (l : List Ev) (w : World) (hl : l.length ≤ 9223372036854775807) (hA : RdEv w B0 l)
include hl hA
set_option maxRecDepth 100000 in
set_option maxHeartbeats 4000000 in
theorem zones_any : Calls Try.prog 11 #[.slice B0 l.length d0] w fun e w' => ∃ A c, e = .returned (.tuple #[.slice A (zsV l).length c, .int .i64 (wonceR l).2]) ∧ Own Zon.enc 4 50 w' w.heap.size (.slice A (zsV l).length c) (zsV l) ∧ Below w.heap.size w w' := by
  have hcal := fun w h => znCalls_any B0 d0 l w hl h
  have hko := wonce_ok (l := l)
  unfold zsV
  obtain ⟨cs, er, hR⟩ : ∃ cs er, wonceR l = (cs, er) := ⟨_, _, rfl⟩
  rw [hR] at hcal hko ⊢
  dsimp only at hcal hko ⊢
  clear hR
  refine calls_T (S := []) [] Try.func11 rfl Try.ntmps11 (by simp) (Mem.nil _) ?_
  by_cases he : er = 0
  · rw [if_pos he]
    have hok := hko he
    have hlen := hok.few
    have hkl := keyZ_len hok
    have hclu := fun A c w h => clusters_any A c cs w hlen h hok
    repeat' (first | (refine GO ?_) | (refine GOE ?_; (first | (rintro _ _ ⟨rfl, rfl⟩) | (rintro _ _ ⟨g, rfl, rfl⟩) | (rintro _ _ ⟨A', c', rfl, rfl⟩))) | ((refine GO2 ?_ ?_) <;> intro h <;> (try (repeat (first | with_reducible (replace h := of_decide_eq_true h) | with_reducible (replace h := of_decide_eq_false h) | with_reducible (replace h := bnt h) | with_reducible (replace h := bnf h) | with_reducible (replace h := Int.not_lt.mp h) | with_reducible (replace h := Int.not_le.mp h) | with_reducible (replace h := band_dec h) | with_reducible (replace h := band_decF h) | with_reducible (replace h := bor_dec h) | with_reducible (replace h := bor_decF h)))) <;> (try (exfalso; first | contradiction | omega))) | ((with_reducible (first | apply TD_e2z | apply TD_e3z | apply TL_e | apply TD_e2 | apply TD_e3)); ((with_reducible apply ES_callOwn (f := 33)); exact rfl; (intro w hw; exact hcal w (hw.rd rfl hA)); exact rfl); (first | exact rfl | exact ⟨rfl, rfl, rfl⟩); (rintro _ _ ⟨A1, c1, rfl, rfl⟩); (try refine ⟨SUB, ?_⟩)) | fail)
    all_goals first | (exfalso; omega) | skip
    have hclu := hclu A1 c1
    repeat' (first | (refine GO ?_) | (refine GOE ?_; (first | (rintro _ _ ⟨rfl, rfl⟩) | (rintro _ _ ⟨g, rfl, rfl⟩) | (rintro _ _ ⟨A', c', rfl, rfl⟩))) | ((refine GO2 ?_ ?_) <;> intro h <;> (try (repeat (first | with_reducible (replace h := of_decide_eq_true h) | with_reducible (replace h := of_decide_eq_false h) | with_reducible (replace h := bnt h) | with_reducible (replace h := bnf h) | with_reducible (replace h := Int.not_lt.mp h) | with_reducible (replace h := Int.not_le.mp h) | with_reducible (replace h := band_dec h) | with_reducible (replace h := band_decF h) | with_reducible (replace h := bor_dec h) | with_reducible (replace h := bor_decF h)))) <;> (try (exfalso; first | contradiction | omega))) | ((with_reducible (first | apply TD_e2z | apply TD_e3z | apply TL_e | apply TD_e2 | apply TD_e3)); ((with_reducible apply ES_callX (f := 35) (X := Option Addr × Nat × CluS cs) (S1 := []) (fun x => .slice x.1 x.2.2.1.length x.2.1) (fun x => [entOwn Clu.enc 9 138 x.1 x.2.1 x.2.2.1])); exact rfl; ((repeat (first | exact Pull.nil _ | (apply Pull.cons; (repeat (first | with_reducible exact Pick.here _ _ | with_reducible apply Pick.there)))))); (intro x; (try dsimp only); repeat (first | exact AppL.nil _ | apply AppL.cons)); (intro w hw; exact hclu w (hw.ownRd (by first | ((repeat (first | with_reducible exact List.mem_cons_self | with_reducible apply List.mem_cons_of_mem)); done) | (repeat (first | exact List.Mem.head _ | apply List.Mem.tail))) (fun _ => rfl))); exact rfl); (first | exact rfl | exact ⟨rfl, rfl, rfl⟩); (rintro _ _ ⟨x, rfl, rfl⟩); (try refine ⟨SUB, ?_⟩)) | fail)
    obtain ⟨CA, cc, CS, hCS⟩ := x
    dsimp only
    have hCl : CS.length ≤ 201 := by
      have := congrArg List.length hCS.1
      rw [List.length_map, List.length_map] at this
      omega
    have hz := zfL_all ⟨CS, hCS⟩
    dsimp only at hz
    rw [← hz]
    repeat' (first | (refine GO ?_) | (refine GOE ?_; (first | (rintro _ _ ⟨rfl, rfl⟩) | (rintro _ _ ⟨g, rfl, rfl⟩) | (rintro _ _ ⟨A', c', rfl, rfl⟩))) | ((refine GO2 ?_ ?_) <;> intro h <;> (try (repeat (first | with_reducible (replace h := of_decide_eq_true h) | with_reducible (replace h := of_decide_eq_false h) | with_reducible (replace h := bnt h) | with_reducible (replace h := bnf h) | with_reducible (replace h := Int.not_lt.mp h) | with_reducible (replace h := Int.not_le.mp h) | with_reducible (replace h := band_dec h) | with_reducible (replace h := band_decF h) | with_reducible (replace h := bor_dec h) | with_reducible (replace h := bor_decF h)))) <;> (try (exfalso; first | contradiction | omega))) | ((with_reducible (first | apply TD_e2z | apply TD_e3z | apply TL_e | apply TD_e2 | apply TD_e3)); ((with_reducible apply ES_callOwn (f := 34)); exact rfl; (intro w hw; exact zonesOf_any CA cc CS w (by omega) (hw.ownRd (by first | ((repeat (first | with_reducible exact List.mem_cons_self | with_reducible apply List.mem_cons_of_mem)); done) | (repeat (first | exact List.Mem.head _ | apply List.Mem.tail))) (fun _ => rfl))); exact rfl); (first | exact rfl | exact ⟨rfl, rfl, rfl⟩); (rintro _ _ ⟨A2, c2, rfl, rfl⟩); (try refine ⟨SUB, ?_⟩)) | fail)
    (refine At_ret Try.results11 rfl (fun w' hw => ?_))
    exact ⟨A2, c2, by rw [he]; rfl, hw.ownOut rfl (by first | ((repeat (first | with_reducible exact List.mem_cons_self | with_reducible apply List.mem_cons_of_mem)); done) | (repeat (first | exact List.Mem.head _ | apply List.Mem.tail))), hw.below0 rfl⟩
  · rw [if_neg he]
    repeat' (first | (refine GO ?_) | (refine GOE ?_; (first | (rintro _ _ ⟨rfl, rfl⟩) | (rintro _ _ ⟨g, rfl, rfl⟩) | (rintro _ _ ⟨A', c', rfl, rfl⟩))) | ((refine GO2 ?_ ?_) <;> intro h <;> (try (repeat (first | with_reducible (replace h := of_decide_eq_true h) | with_reducible (replace h := of_decide_eq_false h) | with_reducible (replace h := bnt h) | with_reducible (replace h := bnf h) | with_reducible (replace h := Int.not_lt.mp h) | with_reducible (replace h := Int.not_le.mp h) | with_reducible (replace h := band_dec h) | with_reducible (replace h := band_decF h) | with_reducible (replace h := bor_dec h) | with_reducible (replace h := bor_decF h)))) <;> (try (exfalso; first | contradiction | omega))) | ((with_reducible (first | apply TD_e2z | apply TD_e3z | apply TL_e | apply TD_e2 | apply TD_e3)); ((with_reducible apply ES_callOwn (f := 33)); exact rfl; (intro w hw; exact hcal w (hw.rd rfl hA)); exact rfl); (first | exact rfl | exact ⟨rfl, rfl, rfl⟩); (rintro _ _ ⟨A1, c1, rfl, rfl⟩); (try refine ⟨SUB, ?_⟩)) | fail)
    all_goals first
      | ((refine At_ret Try.results11 rfl (fun w' hw => ?_)); exact ⟨none, 0, rfl, Own.nil _ _, hw.below0 rfl⟩)
      | (exfalso; omega)
set_option maxRecDepth 100000 in
set_option maxHeartbeats 4000000 in
theorem zcheck_any : Calls Try.prog 12 #[.slice B0 l.length d0] w fun e w' => e = .returned (.tuple #[.bool (decide ((wonceR l).2 = 0) && decide ((zcV l).kind = 0)), .agg (Bd.enc (zcV l)).toArray, .int .i64 (wonceR l).2]) ∧ Below w.heap.size w w' := by
  have hcal := fun w h => znCalls_any B0 d0 l w hl h
  have hko := wonce_ok (l := l)
  unfold zcV
  obtain ⟨cs, er, hR⟩ : ∃ cs er, wonceR l = (cs, er) := ⟨_, _, rfl⟩
  rw [hR] at hcal hko ⊢
  dsimp only at hcal hko ⊢
  clear hR
  refine calls_T (S := []) [] Try.func12 rfl Try.ntmps12 (by simp) (Mem.nil _) ?_
  by_cases he : er = 0
  · rw [if_pos he]
    have hok := hko he
    have hlen := hok.few
    have hkl := keyZ_len hok
    have hclu := fun A c w h => clusters_any A c cs w hlen h hok
    repeat' (first | (refine GO ?_) | (refine GOE ?_; (first | (rintro _ _ ⟨rfl, rfl⟩) | (rintro _ _ ⟨g, rfl, rfl⟩) | (rintro _ _ ⟨A', c', rfl, rfl⟩))) | ((refine GO2 ?_ ?_) <;> intro h <;> (try (repeat (first | with_reducible (replace h := of_decide_eq_true h) | with_reducible (replace h := of_decide_eq_false h) | with_reducible (replace h := bnt h) | with_reducible (replace h := bnf h) | with_reducible (replace h := Int.not_lt.mp h) | with_reducible (replace h := Int.not_le.mp h) | with_reducible (replace h := band_dec h) | with_reducible (replace h := band_decF h) | with_reducible (replace h := bor_dec h) | with_reducible (replace h := bor_decF h)))) <;> (try (exfalso; first | contradiction | omega))) | ((with_reducible (first | apply TD_e2z | apply TD_e3z | apply TL_e | apply TD_e2 | apply TD_e3)); ((with_reducible apply ES_callOwn (f := 33)); exact rfl; (intro w hw; exact hcal w (hw.rd rfl hA)); exact rfl); (first | exact rfl | exact ⟨rfl, rfl, rfl⟩); (rintro _ _ ⟨A1, c1, rfl, rfl⟩); (try refine ⟨SUB, ?_⟩)) | fail)
    all_goals first | (exfalso; omega) | skip
    have hclu := hclu A1 c1
    repeat' (first | (refine GO ?_) | (refine GOE ?_; (first | (rintro _ _ ⟨rfl, rfl⟩) | (rintro _ _ ⟨g, rfl, rfl⟩) | (rintro _ _ ⟨A', c', rfl, rfl⟩))) | ((refine GO2 ?_ ?_) <;> intro h <;> (try (repeat (first | with_reducible (replace h := of_decide_eq_true h) | with_reducible (replace h := of_decide_eq_false h) | with_reducible (replace h := bnt h) | with_reducible (replace h := bnf h) | with_reducible (replace h := Int.not_lt.mp h) | with_reducible (replace h := Int.not_le.mp h) | with_reducible (replace h := band_dec h) | with_reducible (replace h := band_decF h) | with_reducible (replace h := bor_dec h) | with_reducible (replace h := bor_decF h)))) <;> (try (exfalso; first | contradiction | omega))) | ((with_reducible (first | apply TD_e2z | apply TD_e3z | apply TL_e | apply TD_e2 | apply TD_e3)); ((with_reducible apply ES_callX (f := 35) (X := Option Addr × Nat × CluS cs) (S1 := []) (fun x => .slice x.1 x.2.2.1.length x.2.1) (fun x => [entOwn Clu.enc 9 138 x.1 x.2.1 x.2.2.1])); exact rfl; ((repeat (first | exact Pull.nil _ | (apply Pull.cons; (repeat (first | with_reducible exact Pick.here _ _ | with_reducible apply Pick.there)))))); (intro x; (try dsimp only); repeat (first | exact AppL.nil _ | apply AppL.cons)); (intro w hw; exact hclu w (hw.ownRd (by first | ((repeat (first | with_reducible exact List.mem_cons_self | with_reducible apply List.mem_cons_of_mem)); done) | (repeat (first | exact List.Mem.head _ | apply List.Mem.tail))) (fun _ => rfl))); exact rfl); (first | exact rfl | exact ⟨rfl, rfl, rfl⟩); (rintro _ _ ⟨x, rfl, rfl⟩); (try refine ⟨SUB, ?_⟩)) | fail)
    obtain ⟨CA, cc, CS, hCS⟩ := x
    dsimp only
    have hCl : CS.length ≤ 1000 := by
      have := congrArg List.length hCS.1
      rw [List.length_map, List.length_map] at this
      omega
    have hz := zfL_all ⟨CS, hCS⟩
    dsimp only at hz
    have hzl := zfL_len CS CS.length
    have hzv : zonesV cs = if (readsV cs).kind ≠ 0 then readsV cs else pairsV (zfL CS CS.length) := by unfold zonesV; rw [hz]
    clear hz hko
    repeat' (first | (refine GG ?_) | (refine GE ?_; (first | (rintro _ _ ⟨rfl, rfl⟩) | (rintro _ _ ⟨g, rfl, rfl⟩) | (rintro _ _ ⟨A', c', rfl, rfl⟩)); (try refine ⟨SUB, ?_⟩)) | ((refine GO2 ?_ ?_) <;> intro h <;> (try (repeat (first | with_reducible (replace h := of_decide_eq_true h) | with_reducible (replace h := of_decide_eq_false h) | with_reducible (replace h := bnt h) | with_reducible (replace h := bnf h) | with_reducible (replace h := Int.not_lt.mp h) | with_reducible (replace h := Int.not_le.mp h) | with_reducible (replace h := band_dec h) | with_reducible (replace h := band_decF h) | with_reducible (replace h := bor_dec h) | with_reducible (replace h := bor_decF h)))) <;> (try (exfalso; first | contradiction | omega))) | (refine GOF ?_ ?_) | ((with_reducible (first | apply TD_e2z | apply TD_e3z | apply TL_e | apply TD_e2 | apply TD_e3)); ((with_reducible apply ES_callV (f := 36)); exact rfl; (intro w hw; exact zreads_any A1 CA c1 cc cs CS w hlen hCl (hw.ownRd (by first | ((repeat (first | with_reducible exact List.mem_cons_self | with_reducible apply List.mem_cons_of_mem)); done) | (repeat (first | exact List.Mem.head _ | apply List.Mem.tail))) (fun _ => rfl)) (hw.ownRd (by first | ((repeat (first | with_reducible exact List.mem_cons_self | with_reducible apply List.mem_cons_of_mem)); done) | (repeat (first | exact List.Mem.head _ | apply List.Mem.tail))) (fun _ => rfl)) hok hCS); exact rfl); (first | exact rfl | exact ⟨rfl, rfl, rfl⟩); (rintro _ _ ⟨rfl, rfl⟩); (try refine ⟨SUB, ?_⟩)) | ((with_reducible (first | apply TD_e2z | apply TD_e3z | apply TL_e | apply TD_e2 | apply TD_e3)); ((with_reducible apply ES_callOwn (f := 34)); exact rfl; (intro w hw; exact zonesOf_any CA cc CS w (by omega) (hw.ownRd (by first | ((repeat (first | with_reducible exact List.mem_cons_self | with_reducible apply List.mem_cons_of_mem)); done) | (repeat (first | exact List.Mem.head _ | apply List.Mem.tail))) (fun _ => rfl))); exact rfl); (first | exact rfl | exact ⟨rfl, rfl, rfl⟩); (rintro _ _ ⟨A2, c2, rfl, rfl⟩); (try refine ⟨SUB, ?_⟩)) | ((with_reducible apply T_draw (id := 8) 5 (OT.seq [(0, 0), (1, 1), (0, 2), (0, 4), (1, 3), (3, 5), (0, 6)] .nil)); kernel_rfl; exact rfl; kernel_rfl; (repeat (first | with_reducible exact Blind.body | with_reducible apply Blind.seq | with_reducible apply Blind.block))) | fail)
    · have h0 : (readsV cs).kind = 0 := by assumption
      rw [if_neg (by simp [h0])] at hzv
      refine TL_fact (p := (zfL CS CS.length).length ≤ c2 ∧ (A2 = none → c2 = 0)) (fun w hw => hw.ownFacts (enc := Zon.enc) (M := 4) (et := 50) (by first | ((repeat (first | with_reducible exact List.mem_cons_self | with_reducible apply List.mem_cons_of_mem)); done) | (repeat (first | exact List.Mem.head _ | apply List.Mem.tail)))) fun hf => ?_
      repeat' (first | (refine GG ?_) | (refine GE ?_; (first | (rintro _ _ ⟨rfl, rfl⟩) | (rintro _ _ ⟨g, rfl, rfl⟩) | (rintro _ _ ⟨A', c', rfl, rfl⟩)); (try refine ⟨SUB, ?_⟩)) | ((refine GO2 ?_ ?_) <;> intro h <;> (try (repeat (first | with_reducible (replace h := of_decide_eq_true h) | with_reducible (replace h := of_decide_eq_false h) | with_reducible (replace h := bnt h) | with_reducible (replace h := bnf h) | with_reducible (replace h := Int.not_lt.mp h) | with_reducible (replace h := Int.not_le.mp h) | with_reducible (replace h := band_dec h) | with_reducible (replace h := band_decF h) | with_reducible (replace h := bor_dec h) | with_reducible (replace h := bor_decF h)))) <;> (try (exfalso; first | contradiction | omega))) | (refine GOF ?_ ?_) | ((with_reducible (first | apply TD_e2z | apply TD_e3z | apply TL_e | apply TD_e2 | apply TD_e3)); ((with_reducible apply ES_callV (f := 37)); exact rfl; (intro w hw; exact zpairs_any A2 c2 (zfL CS CS.length) w (by omega) hf.1 (hw.ownRd (by first | ((repeat (first | with_reducible exact List.mem_cons_self | with_reducible apply List.mem_cons_of_mem)); done) | (repeat (first | exact List.Mem.head _ | apply List.Mem.tail))) (fun _ => rfl))); exact rfl); (first | exact rfl | exact ⟨rfl, rfl, rfl⟩); (rintro _ _ ⟨rfl, rfl⟩); (try refine ⟨SUB, ?_⟩)) | ((with_reducible apply T_draw (id := 8) 5 (OT.seq [(0, 0), (1, 1), (0, 2), (0, 4), (1, 3), (3, 5), (0, 6)] .nil)); kernel_rfl; exact rfl; kernel_rfl; (repeat (first | with_reducible exact Blind.body | with_reducible apply Blind.seq | with_reducible apply Blind.block))) | fail)
      ((with_reducible apply At_retM Try.results12); (repeat (first | exact ResIs.nil | (apply ResIs.tmp; exact rfl) | (apply ResIs.cell; exact rfl; exact Lds.auto))); intro w' hw)
      exact ⟨by rw [hzv, he]; rfl, hw.below0 rfl⟩
    · have h0 : ¬ (readsV cs).kind = 0 := by assumption
      rw [if_pos h0] at hzv
      ((with_reducible apply At_retM Try.results12); (repeat (first | exact ResIs.nil | (apply ResIs.tmp; exact rfl) | (apply ResIs.cell; exact rfl; exact Lds.auto))); intro w' hw)
      exact ⟨by rw [hzv, he]; rfl, hw.below0 rfl⟩
  · rw [if_neg he]
    repeat' (first | (refine GO ?_) | (refine GOE ?_; (first | (rintro _ _ ⟨rfl, rfl⟩) | (rintro _ _ ⟨g, rfl, rfl⟩) | (rintro _ _ ⟨A', c', rfl, rfl⟩))) | ((refine GO2 ?_ ?_) <;> intro h <;> (try (repeat (first | with_reducible (replace h := of_decide_eq_true h) | with_reducible (replace h := of_decide_eq_false h) | with_reducible (replace h := bnt h) | with_reducible (replace h := bnf h) | with_reducible (replace h := Int.not_lt.mp h) | with_reducible (replace h := Int.not_le.mp h) | with_reducible (replace h := band_dec h) | with_reducible (replace h := band_decF h) | with_reducible (replace h := bor_dec h) | with_reducible (replace h := bor_decF h)))) <;> (try (exfalso; first | contradiction | omega))) | ((with_reducible (first | apply TD_e2z | apply TD_e3z | apply TL_e | apply TD_e2 | apply TD_e3)); ((with_reducible apply ES_callOwn (f := 33)); exact rfl; (intro w hw; exact hcal w (hw.rd rfl hA)); exact rfl); (first | exact rfl | exact ⟨rfl, rfl, rfl⟩); (rintro _ _ ⟨A1, c1, rfl, rfl⟩); (try refine ⟨SUB, ?_⟩)) | fail)
    all_goals first
      | (((with_reducible apply At_retM Try.results12); (repeat (first | exact ResIs.nil | (apply ResIs.tmp; exact rfl) | (apply ResIs.cell; exact rfl; exact Lds.auto))); intro w' hw); exact ⟨by rw [decide_eq_false he]; rfl, hw.below0 rfl⟩)
      | (exfalso; omega)
end
end Go.Proofs.Ytaonijdhmgcbjaa
