/- Lemmas for the walks (TxH, TxD). No condition. -/
import Derived.Test.YthecmfhoaneejaaDoorG12
import Derived.Test.YthecmfhoaneejaaDoorG11
set_option linter.unusedSimpArgs false
set_option linter.unusedVariables false
set_option linter.unusedSectionVars false
set_option linter.unnecessarySimpa false
namespace Go.Proofs.YthecmfhoaneejaaDoor
open Go.RowKit Go.Lib
set_option linter.unusedSectionVars false

section
variable {P : Program} {C : Ctx} {E : Slots} {S : List Ent} {ty ty2 ty3 t k : Nat} {x y : Operand} {m n : Int}
theorem QS_idxBs {l : Bs} {kk : IntKind} (hx : evo E x = some (bsv l)) (hy : evo E y = some (.int kk (k : Nat))) (hk : k < l.length) (ht : P.underlying t = some .string) : QS P C E S (.index t x y) ty (.int .u8 (l[k].toNat : Int)) :=
  QS.of (fun _ w he _ => by
    have hs : (⟨l.toArray⟩ : ByteArray).size = l.length := by show l.toArray.size = _; simp
    have hr := run_index_string (P := P) w t ⟨l.toArray⟩ kk (k : Int) ht
    rw [dif_pos ⟨by omega, by omega⟩] at hr
    have e1 : ((⟨l.toArray⟩ : ByteArray)[((k : Nat) : Int).toNat]'(by omega)) = l[k] := by
      show l.toArray[((k : Nat) : Int).toNat] = l[k]
      simp
    rw [e1] at hr
    simp [execOp, he.evo hx, he.evo hy, bsv, hr])
theorem QS_subU8 (hx : evo E x = some (.int .u8 m)) (hy : evo E y = some (.int .u8 n)) (h0 : 0 ≤ m - n) (h1 : m - n ≤ 255) : QS P C E S (.binOp .sub ty2 x y ty3) ty (.int .u8 (m - n)) :=
  QS.of (fun _ w he _ => binInt he hx hy _ (by
    have : IntKind.u8.wrap (m - n) = m - n := IntWalk.u8_in _ ⟨h0, by omega⟩
    simp [binOp, Op.intArith, this]))
end
theorem numR_len {l : Bs} {v : Int} (h : numR l = some v) : -1000000 ≤ v ∧ v ≤ 1000000 := (numR_iff.1 h).2
/-- how far the document has come -/
structure NumAt (l : Bs) (k : Nat) (n : Int) (m : Nat) : Prop where
  nat : n = (m : Int)
  le : m ≤ 10000009
  zero : k = 0 → m = 0
  go : 0 < k ∨ isNeg l = false → numGo (numBody l) 0 = numGo (l.drop k) m
def sgn (l : Bs) (k : Nat) : Int := if 0 < k ∧ isNeg l = true then -1 else 1
theorem numAt_first {l : Bs} : NumAt l 0 0 0 := ⟨rfl, by omega, fun _ => rfl, fun h => by
  rcases h with h | h
  · omega
  · unfold numBody; rw [if_neg (by rw [h]; decide)]; rfl⟩
theorem numAt_neg {l : Bs} {n : Int} {m : Nat} (hk : 0 < l.length) (h : NumAt l 0 n m) (hc : l[0].toNat = 45) : NumAt l 1 n m ∧ isNeg l = true := by
  have hn : isNeg l = true := by
    unfold isNeg
    rcases l with _ | ⟨a, r⟩
    · simp at hk
    · have : a = 45 := UInt8.toNat_inj.1 hc
      subst this; rfl
  refine ⟨⟨h.nat, h.le, fun e => absurd e (by decide), fun _ => ?_⟩, hn⟩
  unfold numBody
  rw [if_pos hn, h.zero rfl, List.drop_one]
theorem numAt_plain {l : Bs} (hk : 0 < l.length) (hc : ¬ l[0].toNat = 45) : isNeg l = false := by
  unfold isNeg
  rcases l with _ | ⟨a, r⟩
  · simp at hk
  · refine decide_eq_false fun e => hc ?_
    rw [List.head?_cons, Option.some.injEq] at e
    show a.toNat = 45
    rw [e]; rfl
theorem numAt_step {l : Bs} {k : Nat} {n : Int} {m : Nat} (hk : k < l.length) (h : NumAt l k n m) (h0 : 0 < k ∨ isNeg l = false) (hd : 48 ≤ l[k].toNat ∧ l[k].toNat ≤ 57) (hm : m ≤ 1000000) : NumAt l (k + 1) (10 * n + ((l[k].toNat : Int) - 48)) (10 * m + (l[k].toNat - 48)) := by
  refine ⟨by rw [h.nat]; omega, by omega, fun e => by omega, fun _ => ?_⟩
  rw [h.go h0, List.drop_eq_getElem_cons hk, numGo, if_pos ⟨hd.1, hd.2, hm⟩]
theorem numAt_bad {l : Bs} {k : Nat} {n : Int} {m : Nat} (hk : k < l.length) (h : NumAt l k n m) (h0 : 0 < k ∨ isNeg l = false) (hd : ¬ (48 ≤ l[k].toNat ∧ l[k].toNat ≤ 57 ∧ m ≤ 1000000)) : numR l = none := by
  rw [← numDoc, docN, h.go h0, List.drop_eq_getElem_cons hk, numGo, if_neg hd]; rfl
theorem numAt_end {l : Bs} {n : Int} {m : Nat} (h : NumAt l l.length n m) : numR l = if -1000000 ≤ n * sgn l l.length ∧ n * sgn l l.length ≤ 1000000 ∧ itoa (n * sgn l l.length) = l then some (n * sgn l l.length) else none := by
  have h0 : 0 < l.length ∨ isNeg l = false := by
    rcases l with _ | ⟨a, r⟩
    · exact .inr rfl
    · exact .inl (by simp)
  rw [← numDoc, docN, h.go h0, List.drop_length]
  show (match Option.map (fun m : Nat => if isNeg l = true then -(m : Int) else (m : Int)) (some m) with | some n => if -1000000 ≤ n ∧ n ≤ 1000000 ∧ itoa n = l then some n else none | none => none) = _
  have e : (if isNeg l = true then -(m : Int) else (m : Int)) = n * sgn l l.length := by
    unfold sgn
    rw [h.nat]
    by_cases hn : isNeg l = true
    · have hp : 0 < l.length := by
        rcases h0 with h0 | h0
        · exact h0
        · rw [h0] at hn; cases hn
      rw [if_pos hn, if_pos ⟨hp, hn⟩]; omega
    · rw [if_neg hn, if_neg (fun e => hn e.2)]; omega
  rw [Option.map_some, e]
section
variable (l : Bs) (w : World) (hl : l.length ≤ 1000000)
include hl
set_option maxRecDepth 100000 in
set_option maxHeartbeats 4000000 in
theorem numberOf_any : Calls Tryd.prog 42 #[bsv l] w fun e w' => ∃ x : {n : Int // ∀ v, numR l = some v → n = v}, e = .returned (.tuple #[.int .i64 x.1, .bool (numR l).isSome]) ∧ Mem ⟨0, [], w⟩ w' [] := by
  refine calls_T (S := []) [] Tryd.func42 rfl Tryd.ntmps42 (by simp) (Mem.nil _) ?_
  repeat' (first | ((first | with_reducible (first | apply TL_q | apply TD_q0 | apply TD_q1 | apply TD_q2 | apply TD_q3) | ((with_reducible (first | apply TD_q0y | apply TD_q1y)); exact rfl; exact rfl; (with_reducible exact rfl))); (first | ((with_reducible apply QS_idxBs); exact rfl; exact rfl; omega; exact Tryd.underlying9) | ((with_reducible apply QS_subU8); exact rfl; exact rfl; omega; omega) | ((with_reducible apply QS_eqlBs); exact rfl; exact rfl) | ((with_reducible apply QS_lenStr Tryd.underlying9); exact rfl) | exact QS.auto); exact rfl) | (refine GO ?_) | (refine GOE ?_; (first | (rintro _ _ ⟨rfl, rfl⟩) | (rintro _ _ ⟨g, rfl, rfl⟩) | (rintro _ _ ⟨A', c', rfl, rfl⟩))) | ((refine GO2 ?_ ?_) <;> intro h <;> (try (repeat (first | with_reducible (replace h := of_decide_eq_true h) | with_reducible (replace h := of_decide_eq_false h) | with_reducible (replace h := bnt h) | with_reducible (replace h := bnf h) | with_reducible (replace h := Int.not_lt.mp h) | with_reducible (replace h := Int.not_le.mp h) | with_reducible (replace h := band_dec h) | with_reducible (replace h := band_decF h) | with_reducible (replace h := bor_dec h) | with_reducible (replace h := bor_decF h)))) <;> (try (exfalso; first | contradiction | omega))) | fail)
  refine T_loop (X := Nat × Int) (fun x => [(9, .int .i64 (x.1 : Nat)), (8, .int .i64 l.length), (4, .int .i64 x.2), (5, .int .i64 (sgn l x.1)), (0, bsv l)]) (fun _ => []) (fun x => x.1 ≤ l.length ∧ ∃ m, NumAt l x.1 x.2 m) (fun x => l.length - x.1) (0, 0) ⟨by (try dsimp only); omega, 0, numAt_first⟩ (by (try dsimp only); (repeat (first | exact SubE.nil _ | refine SubE.cons rfl ?_))) (by exact SUBS) ?_
  rintro ⟨k, n⟩ ⟨hk, m, hm⟩
  dsimp only at hk hm ⊢
  by_cases hkl : k < l.length
  · have hcl : l[k].toNat < 256 := UInt8.toNat_lt _
    have hn0 : 0 ≤ n := by rw [hm.nat]; omega
    have hn1 : n ≤ 10000009 := by have := hm.le; rw [hm.nat]; omega
    by_cases hneg : k = 0 ∧ l[k].toNat = 45
    · obtain ⟨rfl, hc⟩ := hneg
      obtain ⟨h1, h2⟩ := numAt_neg hkl hm hc
      have hs1 : sgn l (0 + 1) = -1 := if_pos ⟨by omega, h2⟩
      have hc' : ((l[0].toNat : Nat) : Int) = 45 := by omega
      repeat' (first | ((first | with_reducible (first | apply TL_q | apply TD_q0 | apply TD_q1 | apply TD_q2 | apply TD_q3) | ((with_reducible (first | apply TD_q0y | apply TD_q1y)); exact rfl; exact rfl; (with_reducible exact rfl))); (first | ((with_reducible apply QS_idxBs); exact rfl; exact rfl; omega; exact Tryd.underlying9) | ((with_reducible apply QS_subU8); exact rfl; exact rfl; omega; omega) | ((with_reducible apply QS_eqlBs); exact rfl; exact rfl) | ((with_reducible apply QS_lenStr Tryd.underlying9); exact rfl) | exact QS.auto); exact rfl) | (refine GO ?_) | (refine GOE ?_; (first | (rintro _ _ ⟨rfl, rfl⟩) | (rintro _ _ ⟨g, rfl, rfl⟩) | (rintro _ _ ⟨A', c', rfl, rfl⟩))) | ((refine GO2 ?_ ?_) <;> intro h <;> (try (repeat (first | with_reducible (replace h := of_decide_eq_true h) | with_reducible (replace h := of_decide_eq_false h) | with_reducible (replace h := bnt h) | with_reducible (replace h := bnf h) | with_reducible (replace h := Int.not_lt.mp h) | with_reducible (replace h := Int.not_le.mp h) | with_reducible (replace h := band_dec h) | with_reducible (replace h := band_decF h) | with_reducible (replace h := bor_dec h) | with_reducible (replace h := bor_decF h)))) <;> (try (exfalso; first | contradiction | omega))) | fail)
      all_goals first | (exfalso; omega) | (exfalso; contradiction) | skip
      all_goals exact At_rounds (0 + 1, n) ⟨hkl, m, h1⟩ (by (try dsimp only); omega) (by (try dsimp only); rw [hs1]; (repeat (first | exact SubE.nil _ | refine SubE.cons rfl ?_))) (by exact SUBS)
    · have h0 : 0 < k ∨ isNeg l = false := by
        by_cases e : k = 0
        · subst e; exact .inr (numAt_plain hkl fun e => hneg ⟨rfl, e⟩)
        · exact .inl (by omega)
      have hs1 : sgn l (k + 1) = sgn l k := by
        unfold sgn
        rcases h0 with h0 | h0
        · simp [h0]
        · simp [h0]
      have hng : k = 0 → ¬ ((l[k].toNat : Nat) : Int) = 45 := fun e1 e2 => hneg ⟨e1, by omega⟩
      by_cases hd : 48 ≤ l[k].toNat ∧ l[k].toNat ≤ 57 ∧ m ≤ 1000000
      · have h1 := numAt_step hkl hm h0 ⟨hd.1, hd.2.1⟩ hd.2.2
        have hn2 : n ≤ 1000000 := by have := hm.nat; omega
        have hd1 : (48 : Int) ≤ ((l[k].toNat : Nat) : Int) := by omega
        have hd2 : ((l[k].toNat : Nat) : Int) ≤ 57 := by omega
        clear hneg hd
        repeat' (first | ((first | with_reducible (first | apply TL_q | apply TD_q0 | apply TD_q1 | apply TD_q2 | apply TD_q3) | ((with_reducible (first | apply TD_q0y | apply TD_q1y)); exact rfl; exact rfl; (with_reducible exact rfl))); (first | ((with_reducible apply QS_idxBs); exact rfl; exact rfl; omega; exact Tryd.underlying9) | ((with_reducible apply QS_subU8); exact rfl; exact rfl; omega; omega) | ((with_reducible apply QS_eqlBs); exact rfl; exact rfl) | ((with_reducible apply QS_lenStr Tryd.underlying9); exact rfl) | exact QS.auto); exact rfl) | (refine GO ?_) | (refine GOE ?_; (first | (rintro _ _ ⟨rfl, rfl⟩) | (rintro _ _ ⟨g, rfl, rfl⟩) | (rintro _ _ ⟨A', c', rfl, rfl⟩))) | ((refine GO2 ?_ ?_) <;> intro h <;> (try (repeat (first | with_reducible (replace h := of_decide_eq_true h) | with_reducible (replace h := of_decide_eq_false h) | with_reducible (replace h := bnt h) | with_reducible (replace h := bnf h) | with_reducible (replace h := Int.not_lt.mp h) | with_reducible (replace h := Int.not_le.mp h) | with_reducible (replace h := band_dec h) | with_reducible (replace h := band_decF h) | with_reducible (replace h := bor_dec h) | with_reducible (replace h := bor_decF h)))) <;> (try (exfalso; first | contradiction | omega))) | ((with_reducible (first | apply TD_e2z | apply TD_e3z | apply TL_e | apply TD_e2 | apply TD_e3)); ((with_reducible apply ES_callV (f := 21)); exact rfl; (intro w hw; exact Calls.same_below (between_any _ _ _ _)); exact rfl); (first | exact rfl | exact ⟨rfl, rfl, rfl⟩); (rintro _ _ ⟨rfl, rfl⟩); (try refine ⟨SUB, ?_⟩)) | fail)
        all_goals first | (exfalso; omega) | (exfalso; exact hng (by omega) (by assumption)) | skip
        all_goals exact At_rounds (k + 1, 10 * n + ((l[k].toNat : Int) - 48)) ⟨hkl, _, h1⟩ (by (try dsimp only); omega) (by (try dsimp only); rw [hs1]; (repeat (first | exact SubE.nil _ | refine SubE.cons rfl ?_))) (by exact SUBS)
      · have hb := numAt_bad hkl hm h0 hd
        have hd' : ¬ ((48 : Int) ≤ ((l[k].toNat : Nat) : Int) ∧ ((l[k].toNat : Nat) : Int) ≤ 57 ∧ n ≤ 1000000) := fun e => hd ⟨by omega, by omega, by have := hm.nat; omega⟩
        clear hneg hd
        rw [hb]
        repeat' (first | ((first | with_reducible (first | apply TL_q | apply TD_q0 | apply TD_q1 | apply TD_q2 | apply TD_q3) | ((with_reducible (first | apply TD_q0y | apply TD_q1y)); exact rfl; exact rfl; (with_reducible exact rfl))); (first | ((with_reducible apply QS_idxBs); exact rfl; exact rfl; omega; exact Tryd.underlying9) | ((with_reducible apply QS_subU8); exact rfl; exact rfl; omega; omega) | ((with_reducible apply QS_eqlBs); exact rfl; exact rfl) | ((with_reducible apply QS_lenStr Tryd.underlying9); exact rfl) | exact QS.auto); exact rfl) | (refine GO ?_) | (refine GOE ?_; (first | (rintro _ _ ⟨rfl, rfl⟩) | (rintro _ _ ⟨g, rfl, rfl⟩) | (rintro _ _ ⟨A', c', rfl, rfl⟩))) | ((refine GO2 ?_ ?_) <;> intro h <;> (try (repeat (first | with_reducible (replace h := of_decide_eq_true h) | with_reducible (replace h := of_decide_eq_false h) | with_reducible (replace h := bnt h) | with_reducible (replace h := bnf h) | with_reducible (replace h := Int.not_lt.mp h) | with_reducible (replace h := Int.not_le.mp h) | with_reducible (replace h := band_dec h) | with_reducible (replace h := band_decF h) | with_reducible (replace h := bor_dec h) | with_reducible (replace h := bor_decF h)))) <;> (try (exfalso; first | contradiction | omega))) | ((with_reducible (first | apply TD_e2z | apply TD_e3z | apply TL_e | apply TD_e2 | apply TD_e3)); ((with_reducible apply ES_callV (f := 21)); exact rfl; (intro w hw; exact Calls.same_below (between_any _ _ _ _)); exact rfl); (first | exact rfl | exact ⟨rfl, rfl, rfl⟩); (rintro _ _ ⟨rfl, rfl⟩); (try refine ⟨SUB, ?_⟩)) | fail)
        all_goals first | (exfalso; omega) | (exfalso; exact hng (by omega) (by assumption)) | skip
        all_goals
          (refine At_ret Tryd.results42 rfl (fun w' hw => ?_))
          exact ⟨⟨0, fun v hv => by cases hv⟩, rfl, (hw.anyN 0).sel (by (repeat (first | exact Sel.nil _ | (apply Sel.cons; (repeat (first | with_reducible exact Pick.here _ _ | with_reducible apply Pick.there))))))⟩
  · obtain rfl : k = l.length := by omega
    have he := numAt_end hm
    have hs : sgn l l.length = 1 ∨ sgn l l.length = -1 := by unfold sgn; split <;> simp
    have hn0 : 0 ≤ n := by rw [hm.nat]; omega
    have hn1 : n ≤ 10000009 := by have := hm.le; rw [hm.nat]; omega
    have hv : -10000009 ≤ n * sgn l l.length ∧ n * sgn l l.length ≤ 10000009 := by rcases hs with h | h <;> rw [h] <;> omega
    obtain ⟨hv0, hv1⟩ := hv
    have hS : (numR l).isSome = (decide (-1000000 ≤ n * sgn l l.length) && (decide (n * sgn l l.length ≤ 1000000) && decide (itoa (n * sgn l l.length) = l))) := by
      rw [he]
      split
      · rename_i h; rw [decide_eq_true h.1, decide_eq_true h.2.1, decide_eq_true h.2.2]; rfl
      · rename_i h
        symm
        show _ = false
        rw [Bool.eq_false_iff]
        intro e
        simp only [Bool.and_eq_true, decide_eq_true_eq] at e
        exact h e
    repeat' (first | ((first | with_reducible (first | apply TL_q | apply TD_q0 | apply TD_q1 | apply TD_q2 | apply TD_q3) | ((with_reducible (first | apply TD_q0y | apply TD_q1y)); exact rfl; exact rfl; (with_reducible exact rfl))); (first | ((with_reducible apply QS_idxBs); exact rfl; exact rfl; omega; exact Tryd.underlying9) | ((with_reducible apply QS_subU8); exact rfl; exact rfl; omega; omega) | ((with_reducible apply QS_eqlBs); exact rfl; exact rfl) | ((with_reducible apply QS_lenStr Tryd.underlying9); exact rfl) | exact QS.auto); exact rfl) | (refine GO ?_) | (refine GOE ?_; (first | (rintro _ _ ⟨rfl, rfl⟩) | (rintro _ _ ⟨g, rfl, rfl⟩) | (rintro _ _ ⟨A', c', rfl, rfl⟩))) | ((refine GO2 ?_ ?_) <;> intro h <;> (try (repeat (first | with_reducible (replace h := of_decide_eq_true h) | with_reducible (replace h := of_decide_eq_false h) | with_reducible (replace h := bnt h) | with_reducible (replace h := bnf h) | with_reducible (replace h := Int.not_lt.mp h) | with_reducible (replace h := Int.not_le.mp h) | with_reducible (replace h := band_dec h) | with_reducible (replace h := band_decF h) | with_reducible (replace h := bor_dec h) | with_reducible (replace h := bor_decF h)))) <;> (try (exfalso; first | contradiction | omega))) | ((with_reducible (first | apply TD_e2z | apply TD_e3z | apply TL_e | apply TD_e2 | apply TD_e3)); ((with_reducible apply ES_callV (f := 21)); exact rfl; (intro w hw; exact Calls.same_below (between_any _ _ _ _)); exact rfl); (first | exact rfl | exact ⟨rfl, rfl, rfl⟩); (rintro _ _ ⟨rfl, rfl⟩); (try refine ⟨SUB, ?_⟩)) | ((with_reducible (first | apply TD_e2z | apply TD_e3z | apply TL_e | apply TD_e2 | apply TD_e3)); ((with_reducible apply ES_callV (f := 39)); exact rfl; (intro w hw; exact whole_any _ w (by omega)); exact rfl); (first | exact rfl | exact ⟨rfl, rfl, rfl⟩); (rintro _ _ ⟨rfl, rfl⟩); (try refine ⟨SUB, ?_⟩)) | fail)
    all_goals first | (exfalso; omega) | skip
    all_goals
      (refine At_ret Tryd.results42 rfl (fun w' hw => ?_))
      refine ⟨⟨n * sgn l l.length, fun v hv => ?_⟩, ?_, (hw.anyN 0).sel (by (repeat (first | exact Sel.nil _ | (apply Sel.cons; (repeat (first | with_reducible exact Pick.here _ _ | with_reducible apply Pick.there))))))⟩
      · rw [he] at hv
        split at hv
        · exact Option.some.inj hv
        · cases hv
      · show Ending.returned (Value.tuple #[Value.int IntKind.i64 (n * sgn l l.length), Value.bool _]) = Ending.returned (Value.tuple #[Value.int IntKind.i64 (n * sgn l l.length), Value.bool (numR l).isSome])
        rw [hS]
        clear he hS hm
        congr 4
        first | (simp [*]; done) | (simp [*]; omega)
end
end Go.Proofs.YthecmfhoaneejaaDoor

namespace Go.Proofs.YthecmfhoaneejaaDoor
open Go.RowKit Go.Lib
set_option linter.unusedSectionVars false

theorem eventD_3 {l : Bs} {ws : List Bs} (hws : ws = splitL 32 l) (h : ws.length = 3) : eventR l = match numR (ws.getD 0 []), numR (ws.getD 1 []), kdOf (ws.getD 2 []) with
    | some a, some b, some k => if lineEv ⟨a, b, k, 0⟩ = l then some ⟨a, b, k, 0⟩ else none
    | _, _, _ => none := by
  rw [← eventDoc]
  unfold eventD
  rw [← hws]
  rcases ws with _ | ⟨a, _ | ⟨b, _ | ⟨c, _ | ⟨d, r⟩⟩⟩⟩ <;> first | rfl | (simp at h; done) | (simp at h; omega)
theorem eventD_4 {l : Bs} {ws : List Bs} (hws : ws = splitL 32 l) (h : ws.length = 4) : eventR l = match numR (ws.getD 0 []), numR (ws.getD 1 []), kdOf (ws.getD 2 []), numR (ws.getD 3 []) with
    | some a, some b, some k, some v => if lineEv ⟨a, b, k, v⟩ = l then some ⟨a, b, k, v⟩ else none
    | _, _, _, _ => none := by
  rw [← eventDoc]
  unfold eventD
  rw [← hws]
  rcases ws with _ | ⟨a, _ | ⟨b, _ | ⟨c, _ | ⟨d, _ | ⟨e, r⟩⟩⟩⟩⟩ <;> first | rfl | (simp at h; done) | (simp at h; omega)
theorem kind_at {w : Bs} {k : Nat} (hk : k < 11) : kindW.getD k [] = w ↔ idxB kindW w = (k : Int) := by
  constructor
  · intro h
    have := idxB_at (ws := kindW) (by decide) (i := k) hk
    rw [h] at this
    exact this
  · intro h
    rcases idxB_cases kindW w with e | ⟨i, e, h1, h2⟩
    · omega
    · have : i = k := by omega
      rw [← this]; exact h2
theorem kind_lt (w : Bs) : -1 ≤ idxB kindW w ∧ idxB kindW w < 11 := by
  rcases idxB_cases kindW w with e | ⟨i, e, h1, _⟩
  · omega
  · have : kindW.length = 11 := rfl
    omega
/-- the kind that the first k words tell -/
def kdAt (w : Bs) (k : Nat) : Int := if idxB kindW w < (k : Int) then idxB kindW w else -1
theorem kdAt_zero (w : Bs) : kdAt w 0 = -1 := by
  have := kind_lt w
  unfold kdAt
  split <;> omega
theorem kdAt_end (w : Bs) : kdAt w 11 = idxB kindW w := if_pos (kind_lt w).2
theorem kdAt_yes {w : Bs} {k : Nat} (hk : k < 11) (h : kindW.getD k [] = w) : kdAt w (k + 1) = (k : Int) := by
  have := (kind_at hk).1 h
  unfold kdAt
  rw [if_pos (by omega), this]
theorem kdAt_no {w : Bs} {k : Nat} (hk : k < 11) (h : ¬ kindW.getD k [] = w) : kdAt w (k + 1) = kdAt w k := by
  have : ¬ idxB kindW w = (k : Int) := fun e => h ((kind_at hk).2 e)
  unfold kdAt
  by_cases e : idxB kindW w < (k : Int)
  · rw [if_pos e, if_pos (by omega)]
  · rw [if_neg e, if_neg (by omega)]
theorem kdOf_pos {w : Bs} {k : Int} (h : kdOf w = some k) : 0 ≤ idxB kindW w := by
  unfold kdOf at h
  split at h
  · assumption
  · cases h
section
variable (l : Bs) (w : World) (hl : l.length ≤ 1000000) (hT : TxW w)
include hl hT
set_option maxRecDepth 100000 in
set_option maxHeartbeats 4000000 in
theorem lineEvent_any : Calls Tryd.prog 29 #[bsv l] w fun e w' => ∃ x : EvTo l, e = .returned (.tuple #[.agg (Ev.enc x.1).toArray, .bool (eventR l).isSome]) ∧ Mem ⟨0, [], w⟩ w' [] := by
  have hne := splitL_ne 32 l
  have hsl := splitL_len 32 l
  have hpl := fun x (h : x ∈ splitL 32 l) => splitL_part h
  obtain ⟨ws, hws⟩ : ∃ ws, ws = splitL 32 l := ⟨_, rfl⟩
  have hsp := fun w h => split_any 32 l w hl h
  rw [← hws] at hne hsl hpl hsp
  refine calls_T (S := []) [] Tryd.func29 rfl Tryd.ntmps29 (by simp) (Mem.nil _) ?_
  by_cases h34 : ws.length < 3 ∨ 4 < ws.length
  · have hn : eventR l = none := eventR_n hws ⟨by omega, by omega⟩
    rw [show (eventR l).isSome = false by rw [hn]; rfl]
    repeat' (first | ((first | with_reducible (first | apply TL_q | apply TD_q0 | apply TD_q1 | apply TD_q2 | apply TD_q3) | ((with_reducible (first | apply TD_q0y | apply TD_q1y)); exact rfl; exact rfl; (with_reducible exact rfl))); (first | ((with_reducible apply QS_eqlBs); exact rfl; exact rfl) | exact QS.auto); exact rfl) | (refine GO ?_) | (refine GOE ?_; (first | (rintro _ _ ⟨rfl, rfl⟩) | (rintro _ _ ⟨g, rfl, rfl⟩) | (rintro _ _ ⟨A', c', rfl, rfl⟩))) | ((refine GO2 ?_ ?_) <;> intro h <;> (try (repeat (first | with_reducible (replace h := of_decide_eq_true h) | with_reducible (replace h := of_decide_eq_false h) | with_reducible (replace h := bnt h) | with_reducible (replace h := bnf h) | with_reducible (replace h := Int.not_lt.mp h) | with_reducible (replace h := Int.not_le.mp h) | with_reducible (replace h := band_dec h) | with_reducible (replace h := band_decF h) | with_reducible (replace h := bor_dec h) | with_reducible (replace h := bor_decF h)))) <;> (try (exfalso; first | contradiction | omega))) | ((with_reducible (first | apply TD_e2z | apply TD_e3z | apply TL_e | apply TD_e2 | apply TD_e3)); ((with_reducible apply ES_callOwn (f := 18)); exact rfl; (intro w hw; exact hsp w (hT.carry (hw.below0 rfl))); exact rfl); (first | exact rfl | exact ⟨rfl, rfl, rfl⟩); (rintro _ _ ⟨A1, c1, rfl, rfl⟩); (try refine ⟨SUB, ?_⟩)) | fail)
    all_goals first | (exfalso; omega) | skip
    all_goals
      ((with_reducible apply At_retM Tryd.results29); (repeat (first | exact ResIs.nil | (apply ResIs.tmp; exact rfl) | (apply ResIs.cell; exact rfl; exact Lds.auto))); intro w' hw)
      exact ⟨⟨⟨0, 0, 0, 0⟩, fun u hu => by rw [hn] at hu; cases hu⟩, rfl, (hw.anyN 0).sel (by (repeat (first | exact Sel.nil _ | (apply Sel.cons; (repeat (first | with_reducible exact Pick.here _ _ | with_reducible apply Pick.there))))))⟩
  have h3 : 3 ≤ ws.length := by omega
  have h4 : ws.length ≤ 4 := by omega
  clear h34
  repeat' (first | ((first | with_reducible (first | apply TL_q | apply TD_q0 | apply TD_q1 | apply TD_q2 | apply TD_q3) | ((with_reducible (first | apply TD_q0y | apply TD_q1y)); exact rfl; exact rfl; (with_reducible exact rfl))); (first | ((with_reducible apply QS_eqlBs); exact rfl; exact rfl) | exact QS.auto); exact rfl) | (refine GO ?_) | (refine GOE ?_; (first | (rintro _ _ ⟨rfl, rfl⟩) | (rintro _ _ ⟨g, rfl, rfl⟩) | (rintro _ _ ⟨A', c', rfl, rfl⟩))) | ((refine GO2 ?_ ?_) <;> intro h <;> (try (repeat (first | with_reducible (replace h := of_decide_eq_true h) | with_reducible (replace h := of_decide_eq_false h) | with_reducible (replace h := bnt h) | with_reducible (replace h := bnf h) | with_reducible (replace h := Int.not_lt.mp h) | with_reducible (replace h := Int.not_le.mp h) | with_reducible (replace h := band_dec h) | with_reducible (replace h := band_decF h) | with_reducible (replace h := bor_dec h) | with_reducible (replace h := bor_decF h)))) <;> (try (exfalso; first | contradiction | omega))) | fail)
  obtain ⟨g2, rfl⟩ : ∃ x, x = g := ⟨_, rfl⟩
  repeat' (first | ((first | with_reducible (first | apply TL_q | apply TD_q0 | apply TD_q1 | apply TD_q2 | apply TD_q3) | ((with_reducible (first | apply TD_q0y | apply TD_q1y)); exact rfl; exact rfl; (with_reducible exact rfl))); (first | ((with_reducible apply QS_eqlBs); exact rfl; exact rfl) | exact QS.auto); exact rfl) | (refine GO ?_) | (refine GOE ?_; (first | (rintro _ _ ⟨rfl, rfl⟩) | (rintro _ _ ⟨g, rfl, rfl⟩) | (rintro _ _ ⟨A', c', rfl, rfl⟩))) | ((refine GO2 ?_ ?_) <;> intro h <;> (try (repeat (first | with_reducible (replace h := of_decide_eq_true h) | with_reducible (replace h := of_decide_eq_false h) | with_reducible (replace h := bnt h) | with_reducible (replace h := bnf h) | with_reducible (replace h := Int.not_lt.mp h) | with_reducible (replace h := Int.not_le.mp h) | with_reducible (replace h := band_dec h) | with_reducible (replace h := band_decF h) | with_reducible (replace h := bor_dec h) | with_reducible (replace h := bor_decF h)))) <;> (try (exfalso; first | contradiction | omega))) | ((with_reducible (first | apply TD_e2z | apply TD_e3z | apply TL_e | apply TD_e2 | apply TD_e3)); ((with_reducible apply ES_callOwn (f := 18)); exact rfl; (intro w hw; exact hsp w (hT.carry (hw.below0 rfl))); exact rfl); (first | exact rfl | exact ⟨rfl, rfl, rfl⟩); (rintro _ _ ⟨A1, c1, rfl, rfl⟩); (try refine ⟨SUB, ?_⟩)) | fail)
  all_goals first | (exfalso; omega) | skip
  refine TL_fact (p := ws.length ≤ c1 ∧ (A1 = none → c1 = 0)) (fun w hw => hw.ownFacts (enc := strEnc) (M := 1) (et := 9) (by first | ((repeat (first | with_reducible exact List.mem_cons_self | with_reducible apply List.mem_cons_of_mem)); done) | (repeat (first | exact List.Mem.head _ | apply List.Mem.tail)))) fun hf => ?_
  refine TL_own (enc := strEnc) (ls := ws) (by first | ((repeat (first | with_reducible exact List.mem_cons_self | with_reducible apply List.mem_cons_of_mem)); done) | (repeat (first | exact List.Mem.head _ | apply List.Mem.tail))) (by omega) ?_
  rintro g1 rfl
  obtain ⟨g5, rfl⟩ : ∃ x, x = g := ⟨_, rfl⟩
  have hl0 := hpl ws[0] (List.getElem_mem _)
  have hl1 := hpl ws[1] (List.getElem_mem _)
  have hl2 := hpl ws[2] (List.getElem_mem _)
  have hg : ∀ i (h : i < ws.length), ws.getD i [] = ws[i] := fun i h => by simp [h]
  repeat' (first | ((first | with_reducible (first | apply TL_q | apply TD_q0 | apply TD_q1 | apply TD_q2 | apply TD_q3) | ((with_reducible (first | apply TD_q0y | apply TD_q1y)); exact rfl; exact rfl; (with_reducible exact rfl))); (first | ((with_reducible apply QS_eqlBs); exact rfl; exact rfl) | exact QS.auto); exact rfl) | (refine GO ?_) | (refine GOE ?_; (first | (rintro _ _ ⟨rfl, rfl⟩) | (rintro _ _ ⟨g, rfl, rfl⟩) | (rintro _ _ ⟨A', c', rfl, rfl⟩))) | ((refine GO2 ?_ ?_) <;> intro h <;> (try (repeat (first | with_reducible (replace h := of_decide_eq_true h) | with_reducible (replace h := of_decide_eq_false h) | with_reducible (replace h := bnt h) | with_reducible (replace h := bnf h) | with_reducible (replace h := Int.not_lt.mp h) | with_reducible (replace h := Int.not_le.mp h) | with_reducible (replace h := band_dec h) | with_reducible (replace h := band_decF h) | with_reducible (replace h := bor_dec h) | with_reducible (replace h := bor_decF h)))) <;> (try (exfalso; first | contradiction | omega))) | fail)
  ((with_reducible (first | apply TD_e2z | apply TD_e3z | apply TL_e | apply TD_e2 | apply TD_e3)); ((with_reducible apply ES_callX (f := 42) (X := {n : Int // ∀ v, numR ws[0] = some v → n = v}) (S1 := []) (fun x => .tuple #[.int .i64 x.1, .bool (numR ws[0]).isSome]) (fun _ => [])); exact rfl; ((repeat (first | exact Pull.nil _ | (apply Pull.cons; (repeat (first | with_reducible exact Pick.here _ _ | with_reducible apply Pick.there)))))); (intro x; (try dsimp only); repeat (first | exact AppL.nil _ | apply AppL.cons)); (intro w hw; exact numberOf_any ws[0] w (by omega)); exact rfl); (first | exact rfl | exact ⟨rfl, rfl, rfl⟩); (rintro _ _ ⟨⟨xa, hxa⟩, rfl, rfl⟩); (try refine ⟨SUB, ?_⟩))
  dsimp only
  repeat' (first | ((first | with_reducible (first | apply TL_q | apply TD_q0 | apply TD_q1 | apply TD_q2 | apply TD_q3) | ((with_reducible (first | apply TD_q0y | apply TD_q1y)); exact rfl; exact rfl; (with_reducible exact rfl))); (first | ((with_reducible apply QS_eqlBs); exact rfl; exact rfl) | exact QS.auto); exact rfl) | (refine GO ?_) | (refine GOE ?_; (first | (rintro _ _ ⟨rfl, rfl⟩) | (rintro _ _ ⟨g, rfl, rfl⟩) | (rintro _ _ ⟨A', c', rfl, rfl⟩))) | ((refine GO2 ?_ ?_) <;> intro h <;> (try (repeat (first | with_reducible (replace h := of_decide_eq_true h) | with_reducible (replace h := of_decide_eq_false h) | with_reducible (replace h := bnt h) | with_reducible (replace h := bnf h) | with_reducible (replace h := Int.not_lt.mp h) | with_reducible (replace h := Int.not_le.mp h) | with_reducible (replace h := band_dec h) | with_reducible (replace h := band_decF h) | with_reducible (replace h := bor_dec h) | with_reducible (replace h := bor_decF h)))) <;> (try (exfalso; first | contradiction | omega))) | fail)
  ((with_reducible (first | apply TD_e2z | apply TD_e3z | apply TL_e | apply TD_e2 | apply TD_e3)); ((with_reducible apply ES_callX (f := 42) (X := {n : Int // ∀ v, numR ws[1] = some v → n = v}) (S1 := []) (fun x => .tuple #[.int .i64 x.1, .bool (numR ws[1]).isSome]) (fun _ => [])); exact rfl; ((repeat (first | exact Pull.nil _ | (apply Pull.cons; (repeat (first | with_reducible exact Pick.here _ _ | with_reducible apply Pick.there)))))); (intro x; (try dsimp only); repeat (first | exact AppL.nil _ | apply AppL.cons)); (intro w hw; exact numberOf_any ws[1] w (by omega)); exact rfl); (first | exact rfl | exact ⟨rfl, rfl, rfl⟩); (rintro _ _ ⟨⟨xb, hxb⟩, rfl, rfl⟩); (try refine ⟨SUB, ?_⟩))
  dsimp only
  repeat' (first | ((first | with_reducible (first | apply TL_q | apply TD_q0 | apply TD_q1 | apply TD_q2 | apply TD_q3) | ((with_reducible (first | apply TD_q0y | apply TD_q1y)); exact rfl; exact rfl; (with_reducible exact rfl))); (first | ((with_reducible apply QS_eqlBs); exact rfl; exact rfl) | exact QS.auto); exact rfl) | (refine GO ?_) | (refine GOE ?_; (first | (rintro _ _ ⟨rfl, rfl⟩) | (rintro _ _ ⟨g, rfl, rfl⟩) | (rintro _ _ ⟨A', c', rfl, rfl⟩))) | ((refine GO2 ?_ ?_) <;> intro h <;> (try (repeat (first | with_reducible (replace h := of_decide_eq_true h) | with_reducible (replace h := of_decide_eq_false h) | with_reducible (replace h := bnt h) | with_reducible (replace h := bnf h) | with_reducible (replace h := Int.not_lt.mp h) | with_reducible (replace h := Int.not_le.mp h) | with_reducible (replace h := band_dec h) | with_reducible (replace h := band_decF h) | with_reducible (replace h := bor_dec h) | with_reducible (replace h := bor_decF h)))) <;> (try (exfalso; first | contradiction | omega))) | fail)
  refine T_loop (X := Nat) (fun k => [(42, .int .i64 (k : Nat)), (2, .pointer (some ⟨g2, 0, none⟩)), (5, .pointer (some ⟨g5, 0, none⟩)), (4, .slice (some ⟨g1, 0, none⟩) ws.length c1), (7, .bool (numR ws[0]).isSome), (9, .bool (numR ws[1]).isSome), (0, bsv l)]) (fun k => [entBlk g2 36 #[.int .i64 0, .int .i64 0, .int .i64 0, .int .i64 0], entBlk g5 36 #[.int .i64 xa, .int .i64 xb, .int .i64 (kdAt ws[2] k), .int .i64 0], entOwn strEnc 1 9 (some ⟨g1, 0, none⟩) c1 ws]) (fun k => k ≤ 11) (fun k => 11 - k) 0 (by omega) (by (repeat (first | exact SubE.nil _ | refine SubE.cons rfl ?_))) (fun w' hw => by (try dsimp only); rw [kdAt_zero]; exact hw.sel (by (repeat (first | exact Sel.nil _ | (apply Sel.cons; (repeat (first | with_reducible exact Pick.here _ _ | with_reducible apply Pick.there))))))) ?_
  intro k hk
  by_cases hk11 : k < 11
  · by_cases hwd : kindW.getD ((k : Nat) : Int).toNat [] = ws[2]
    · have hkd := kdAt_yes hk11 (w := ws[2]) hwd
      repeat' (first | ((first | with_reducible (first | apply TL_q | apply TD_q0 | apply TD_q1 | apply TD_q2 | apply TD_q3) | ((with_reducible (first | apply TD_q0y | apply TD_q1y)); exact rfl; exact rfl; (with_reducible exact rfl))); (first | ((with_reducible apply QS_eqlBs); exact rfl; exact rfl) | exact QS.auto); exact rfl) | (refine GG ?_) | (refine GE ?_; (first | (rintro _ _ ⟨rfl, rfl⟩) | (rintro _ _ ⟨g, rfl, rfl⟩) | (rintro _ _ ⟨A', c', rfl, rfl⟩)); (try refine ⟨SUB, ?_⟩)) | ((refine GO2 ?_ ?_) <;> intro h <;> (try (repeat (first | with_reducible (replace h := of_decide_eq_true h) | with_reducible (replace h := of_decide_eq_false h) | with_reducible (replace h := bnt h) | with_reducible (replace h := bnf h) | with_reducible (replace h := Int.not_lt.mp h) | with_reducible (replace h := Int.not_le.mp h) | with_reducible (replace h := band_dec h) | with_reducible (replace h := band_decF h) | with_reducible (replace h := bor_dec h) | with_reducible (replace h := bor_decF h)))) <;> (try (exfalso; first | contradiction | omega))) | (refine GOF ?_ ?_) | ((with_reducible apply T_draw (id := 11) 1000 (OT.seq [(0, 0), (0, 2), (0, 3), (1, 4), (2, 1), (0, 5)] .nil)); kernel_rfl; exact rfl; kernel_rfl; (repeat (first | with_reducible exact Blind.body | with_reducible apply Blind.seq | with_reducible apply Blind.block))) | ((with_reducible apply T_draw (id := 19) 5 (OT.seq [(0, 3), (1, 0), (1, 1), (2, 2), (0, 4), (3, 5), (0, 6)] .nil)); kernel_rfl; exact rfl; kernel_rfl; (repeat (first | with_reducible exact Blind.body | with_reducible apply Blind.seq | with_reducible apply Blind.block))) | ((with_reducible (first | apply TD_e2z | apply TD_e3z | apply TL_e | apply TD_e2 | apply TD_e3)); ((with_reducible apply ES_callV (f := 40)); exact rfl; (intro w hw; exact kindWord_any _ w (by omega) (hT.carry (hw.below0 rfl))); exact rfl); (first | exact rfl | exact ⟨rfl, rfl, rfl⟩); (rintro _ _ ⟨rfl, rfl⟩); (try refine ⟨SUB, ?_⟩)) | fail)
      all_goals first | (exfalso; omega) | (exfalso; contradiction) | skip
      all_goals exact At_rounds (k + 1) (by omega) (by omega) (by (repeat (first | exact SubE.nil _ | refine SubE.cons rfl ?_))) (by rw [hkd]; exact fun w' hw => hw.sel (by (repeat (first | exact Sel.nil _ | (apply Sel.cons; (repeat (first | with_reducible exact Pick.here _ _ | with_reducible apply Pick.there)))))))
    · have hkd := kdAt_no hk11 (w := ws[2]) hwd
      repeat' (first | ((first | with_reducible (first | apply TL_q | apply TD_q0 | apply TD_q1 | apply TD_q2 | apply TD_q3) | ((with_reducible (first | apply TD_q0y | apply TD_q1y)); exact rfl; exact rfl; (with_reducible exact rfl))); (first | ((with_reducible apply QS_eqlBs); exact rfl; exact rfl) | exact QS.auto); exact rfl) | (refine GG ?_) | (refine GE ?_; (first | (rintro _ _ ⟨rfl, rfl⟩) | (rintro _ _ ⟨g, rfl, rfl⟩) | (rintro _ _ ⟨A', c', rfl, rfl⟩)); (try refine ⟨SUB, ?_⟩)) | ((refine GO2 ?_ ?_) <;> intro h <;> (try (repeat (first | with_reducible (replace h := of_decide_eq_true h) | with_reducible (replace h := of_decide_eq_false h) | with_reducible (replace h := bnt h) | with_reducible (replace h := bnf h) | with_reducible (replace h := Int.not_lt.mp h) | with_reducible (replace h := Int.not_le.mp h) | with_reducible (replace h := band_dec h) | with_reducible (replace h := band_decF h) | with_reducible (replace h := bor_dec h) | with_reducible (replace h := bor_decF h)))) <;> (try (exfalso; first | contradiction | omega))) | (refine GOF ?_ ?_) | ((with_reducible apply T_draw (id := 11) 1000 (OT.seq [(0, 0), (0, 2), (0, 3), (1, 4), (2, 1), (0, 5)] .nil)); kernel_rfl; exact rfl; kernel_rfl; (repeat (first | with_reducible exact Blind.body | with_reducible apply Blind.seq | with_reducible apply Blind.block))) | ((with_reducible apply T_draw (id := 19) 5 (OT.seq [(0, 3), (1, 0), (1, 1), (2, 2), (0, 4), (3, 5), (0, 6)] .nil)); kernel_rfl; exact rfl; kernel_rfl; (repeat (first | with_reducible exact Blind.body | with_reducible apply Blind.seq | with_reducible apply Blind.block))) | ((with_reducible (first | apply TD_e2z | apply TD_e3z | apply TL_e | apply TD_e2 | apply TD_e3)); ((with_reducible apply ES_callV (f := 40)); exact rfl; (intro w hw; exact kindWord_any _ w (by omega) (hT.carry (hw.below0 rfl))); exact rfl); (first | exact rfl | exact ⟨rfl, rfl, rfl⟩); (rintro _ _ ⟨rfl, rfl⟩); (try refine ⟨SUB, ?_⟩)) | fail)
      all_goals first | (exfalso; omega) | (exfalso; contradiction) | skip
      all_goals exact At_rounds (k + 1) (by omega) (by omega) (by (repeat (first | exact SubE.nil _ | refine SubE.cons rfl ?_))) (by rw [hkd]; exact fun w' hw => hw.sel (by (repeat (first | exact Sel.nil _ | (apply Sel.cons; (repeat (first | with_reducible exact Pick.here _ _ | with_reducible apply Pick.there)))))))
  · obtain rfl : k = 11 := by omega
    rw [kdAt_end]
    obtain ⟨ix, hix⟩ : ∃ ix, ix = idxB kindW ws[2] := ⟨_, rfl⟩
    have hkl := kind_lt ws[2]
    rw [← hix] at hkl ⊢
    obtain ⟨hk0, hk1⟩ := hkl
    clear hsp hf hpl hsl hk hk11
    by_cases e3 : ws.length = 3
    · have hE := eventD_3 hws e3
      rw [hg 0 (by omega), hg 1 (by omega), hg 2 (by omega)] at hE
      by_cases hok : (numR ws[0]).isSome = true ∧ (numR ws[1]).isSome = true ∧ 0 ≤ ix
      · have hn0 := txSome hok.1 hxa
        have hn1 := txSome hok.2.1 hxb
        have hk : kdOf ws[2] = some ix := by rw [hix]; exact if_pos (by rw [← hix]; exact hok.2.2)
        rw [hn0, hn1, hk] at hE
        dsimp only at hE
        have hnum : EvNum ⟨xa, xb, ix, 0⟩ := ⟨numR_len hn0, numR_len hn1, ⟨hok.2.2, by (try dsimp only); omega⟩, by (try dsimp only); omega⟩
        have hok2 := hok.2.2
        rw [hn0, hn1, show (some xa).isSome = true from rfl, show (some xb).isSome = true from rfl]
        obtain ⟨vv, hvv⟩ : ∃ v : Int, v = 0 := ⟨_, rfl⟩
        rw [← hvv] at hE hnum
        have hE2 : (eventR l).isSome = decide (lineEv ⟨xa, xb, ix, vv⟩ = l) := by
          rw [hE]
          by_cases e : lineEv ⟨xa, xb, ix, vv⟩ = l
          · rw [if_pos e, decide_eq_true e]; rfl
          · rw [if_neg e, decide_eq_false e]; rfl
        have hE3 : ∀ u, eventR l = some u → (⟨xa, xb, ix, vv⟩ : Ev) = u := fun u hu => by
          rw [hE] at hu
          split at hu
          · exact Option.some.inj hu
          · cases hu
        clear hE hn0 hn1 hk hok hg
        subst hvv
        repeat' (first | ((first | with_reducible (first | apply TL_q | apply TD_q0 | apply TD_q1 | apply TD_q2 | apply TD_q3) | ((with_reducible (first | apply TD_q0y | apply TD_q1y)); exact rfl; exact rfl; (with_reducible exact rfl))); (first | ((with_reducible apply QS_eqlBs); exact rfl; exact rfl) | exact QS.auto); exact rfl) | (refine GG ?_) | (refine GE ?_; (first | (rintro _ _ ⟨rfl, rfl⟩) | (rintro _ _ ⟨g, rfl, rfl⟩) | (rintro _ _ ⟨A', c', rfl, rfl⟩)); (try refine ⟨SUB, ?_⟩)) | ((refine GO2 ?_ ?_) <;> intro h <;> (try (repeat (first | with_reducible (replace h := of_decide_eq_true h) | with_reducible (replace h := of_decide_eq_false h) | with_reducible (replace h := bnt h) | with_reducible (replace h := bnf h) | with_reducible (replace h := Int.not_lt.mp h) | with_reducible (replace h := Int.not_le.mp h) | with_reducible (replace h := band_dec h) | with_reducible (replace h := band_decF h) | with_reducible (replace h := bor_dec h) | with_reducible (replace h := bor_decF h)))) <;> (try (exfalso; first | contradiction | omega))) | (refine GOF ?_ ?_) | ((with_reducible apply T_draw (id := 11) 1000 (OT.seq [(0, 0), (0, 2), (0, 3), (1, 4), (2, 1), (0, 5)] .nil)); kernel_rfl; exact rfl; kernel_rfl; (repeat (first | with_reducible exact Blind.body | with_reducible apply Blind.seq | with_reducible apply Blind.block))) | ((with_reducible apply T_draw (id := 19) 5 (OT.seq [(0, 3), (1, 0), (1, 1), (2, 2), (0, 4), (3, 5), (0, 6)] .nil)); kernel_rfl; exact rfl; kernel_rfl; (repeat (first | with_reducible exact Blind.body | with_reducible apply Blind.seq | with_reducible apply Blind.block))) | ((with_reducible (first | apply TD_e2z | apply TD_e3z | apply TL_e | apply TD_e2 | apply TD_e3)); ((with_reducible apply ES_callV (f := 27)); exact rfl; (intro w hw; exact eventLine_any ⟨xa, xb, ix, 0⟩ w hnum (hT.carry (hw.below0 rfl))); exact rfl); (first | exact rfl | exact ⟨rfl, rfl, rfl⟩); (rintro _ _ ⟨rfl, rfl⟩); (try refine ⟨SUB, ?_⟩)) | fail)
        all_goals first | (exfalso; omega) | (exfalso; contradiction) | skip
        all_goals
          ((with_reducible apply At_retM Tryd.results29); (repeat (first | exact ResIs.nil | (apply ResIs.tmp; exact rfl) | (apply ResIs.cell; exact rfl; exact Lds.auto))); intro w' hw)
          rw [hE2]
          exact ⟨⟨⟨xa, xb, ix, 0⟩, hE3⟩, rfl, (hw.anyN 0).sel (by (repeat (first | exact Sel.nil _ | (apply Sel.cons; (repeat (first | with_reducible exact Pick.here _ _ | with_reducible apply Pick.there))))))⟩
      · have hn : eventR l = none := by
          rw [hE]
          split
          · rename_i a b k h0 h1 h2
            exact absurd ⟨by rw [h0]; rfl, by rw [h1]; rfl, by rw [hix]; exact kdOf_pos h2⟩ hok
          · rfl
        rw [show (eventR l).isSome = false by rw [hn]; rfl]
        clear hE hg
        generalize (numR ws[0]).isSome = f0 at *
        generalize (numR ws[1]).isSome = f1 at *
        repeat' (first | ((first | with_reducible (first | apply TL_q | apply TD_q0 | apply TD_q1 | apply TD_q2 | apply TD_q3) | ((with_reducible (first | apply TD_q0y | apply TD_q1y)); exact rfl; exact rfl; (with_reducible exact rfl))); (first | ((with_reducible apply QS_eqlBs); exact rfl; exact rfl) | exact QS.auto); exact rfl) | (refine GG ?_) | (refine GE ?_; (first | (rintro _ _ ⟨rfl, rfl⟩) | (rintro _ _ ⟨g, rfl, rfl⟩) | (rintro _ _ ⟨A', c', rfl, rfl⟩)); (try refine ⟨SUB, ?_⟩)) | ((refine GO2 ?_ ?_) <;> intro h <;> (try (repeat (first | with_reducible (replace h := of_decide_eq_true h) | with_reducible (replace h := of_decide_eq_false h) | with_reducible (replace h := bnt h) | with_reducible (replace h := bnf h) | with_reducible (replace h := Int.not_lt.mp h) | with_reducible (replace h := Int.not_le.mp h) | with_reducible (replace h := band_dec h) | with_reducible (replace h := band_decF h) | with_reducible (replace h := bor_dec h) | with_reducible (replace h := bor_decF h)))) <;> (try (exfalso; first | contradiction | omega))) | (refine GOF ?_ ?_) | fail)
        all_goals first | (exfalso; omega) | (exfalso; exact hok ⟨by assumption, by assumption, by omega⟩) | skip
        all_goals
          ((with_reducible apply At_retM Tryd.results29); (repeat (first | exact ResIs.nil | (apply ResIs.tmp; exact rfl) | (apply ResIs.cell; exact rfl; exact Lds.auto))); intro w' hw)
          exact ⟨⟨⟨xa, xb, ix, 0⟩, fun u hu => by rw [hn] at hu; cases hu⟩, rfl, (hw.anyN 0).sel (by (repeat (first | exact Sel.nil _ | (apply Sel.cons; (repeat (first | with_reducible exact Pick.here _ _ | with_reducible apply Pick.there))))))⟩
    · obtain e4 : ws.length = 4 := by omega
      have hl3 : ws[3].length ≤ l.length := splitL_part (c := 32) (by rw [← hws]; exact List.getElem_mem _)
      have hE := eventD_4 hws e4
      rw [hg 0 (by omega), hg 1 (by omega), hg 2 (by omega), hg 3 (by omega)] at hE
      repeat' (first | ((first | with_reducible (first | apply TL_q | apply TD_q0 | apply TD_q1 | apply TD_q2 | apply TD_q3) | ((with_reducible (first | apply TD_q0y | apply TD_q1y)); exact rfl; exact rfl; (with_reducible exact rfl))); (first | ((with_reducible apply QS_eqlBs); exact rfl; exact rfl) | exact QS.auto); exact rfl) | (refine GG ?_) | (refine GE ?_; (first | (rintro _ _ ⟨rfl, rfl⟩) | (rintro _ _ ⟨g, rfl, rfl⟩) | (rintro _ _ ⟨A', c', rfl, rfl⟩)); (try refine ⟨SUB, ?_⟩)) | ((refine GO2 ?_ ?_) <;> intro h <;> (try (repeat (first | with_reducible (replace h := of_decide_eq_true h) | with_reducible (replace h := of_decide_eq_false h) | with_reducible (replace h := bnt h) | with_reducible (replace h := bnf h) | with_reducible (replace h := Int.not_lt.mp h) | with_reducible (replace h := Int.not_le.mp h) | with_reducible (replace h := band_dec h) | with_reducible (replace h := band_decF h) | with_reducible (replace h := bor_dec h) | with_reducible (replace h := bor_decF h)))) <;> (try (exfalso; first | contradiction | omega))) | (refine GOF ?_ ?_) | fail)
      all_goals first | (exfalso; omega) | skip
      ((with_reducible (first | apply TD_e2z | apply TD_e3z | apply TL_e | apply TD_e2 | apply TD_e3)); ((with_reducible apply ES_callX (f := 42) (X := {n : Int // ∀ v, numR ws[3] = some v → n = v}) (S1 := []) (fun x => .tuple #[.int .i64 x.1, .bool (numR ws[3]).isSome]) (fun _ => [])); exact rfl; ((repeat (first | exact Pull.nil _ | (apply Pull.cons; (repeat (first | with_reducible exact Pick.here _ _ | with_reducible apply Pick.there)))))); (intro x; (try dsimp only); repeat (first | exact AppL.nil _ | apply AppL.cons)); (intro w hw; exact numberOf_any ws[3] w (by omega)); exact rfl); (first | exact rfl | exact ⟨rfl, rfl, rfl⟩); (rintro _ _ ⟨⟨vv, hvv⟩, rfl, rfl⟩); (try refine ⟨SUB, ?_⟩))
      dsimp only
      by_cases hok : (numR ws[0]).isSome = true ∧ (numR ws[1]).isSome = true ∧ (numR ws[3]).isSome = true ∧ 0 ≤ ix
      · have hn0 := txSome hok.1 hxa
        have hn1 := txSome hok.2.1 hxb
        have hn3 := txSome hok.2.2.1 hvv
        have hk : kdOf ws[2] = some ix := by rw [hix]; exact if_pos (by rw [← hix]; exact hok.2.2.2)
        rw [hn0, hn1, hk, hn3] at hE
        dsimp only at hE
        have hnum : EvNum ⟨xa, xb, ix, vv⟩ := ⟨numR_len hn0, numR_len hn1, ⟨hok.2.2.2, by (try dsimp only); omega⟩, numR_len hn3⟩
        have hok2 := hok.2.2.2
        rw [hn0, hn1, hn3, show (some xa).isSome = true from rfl, show (some xb).isSome = true from rfl, show (some vv).isSome = true from rfl]
        have hE2 : (eventR l).isSome = decide (lineEv ⟨xa, xb, ix, vv⟩ = l) := by
          rw [hE]
          by_cases e : lineEv ⟨xa, xb, ix, vv⟩ = l
          · rw [if_pos e, decide_eq_true e]; rfl
          · rw [if_neg e, decide_eq_false e]; rfl
        have hE3 : ∀ u, eventR l = some u → (⟨xa, xb, ix, vv⟩ : Ev) = u := fun u hu => by
          rw [hE] at hu
          split at hu
          · exact Option.some.inj hu
          · cases hu
        clear hE hn0 hn1 hn3 hk hok hg
        repeat' (first | ((first | with_reducible (first | apply TL_q | apply TD_q0 | apply TD_q1 | apply TD_q2 | apply TD_q3) | ((with_reducible (first | apply TD_q0y | apply TD_q1y)); exact rfl; exact rfl; (with_reducible exact rfl))); (first | ((with_reducible apply QS_eqlBs); exact rfl; exact rfl) | exact QS.auto); exact rfl) | (refine GG ?_) | (refine GE ?_; (first | (rintro _ _ ⟨rfl, rfl⟩) | (rintro _ _ ⟨g, rfl, rfl⟩) | (rintro _ _ ⟨A', c', rfl, rfl⟩)); (try refine ⟨SUB, ?_⟩)) | ((refine GO2 ?_ ?_) <;> intro h <;> (try (repeat (first | with_reducible (replace h := of_decide_eq_true h) | with_reducible (replace h := of_decide_eq_false h) | with_reducible (replace h := bnt h) | with_reducible (replace h := bnf h) | with_reducible (replace h := Int.not_lt.mp h) | with_reducible (replace h := Int.not_le.mp h) | with_reducible (replace h := band_dec h) | with_reducible (replace h := band_decF h) | with_reducible (replace h := bor_dec h) | with_reducible (replace h := bor_decF h)))) <;> (try (exfalso; first | contradiction | omega))) | (refine GOF ?_ ?_) | ((with_reducible apply T_draw (id := 11) 1000 (OT.seq [(0, 0), (0, 2), (0, 3), (1, 4), (2, 1), (0, 5)] .nil)); kernel_rfl; exact rfl; kernel_rfl; (repeat (first | with_reducible exact Blind.body | with_reducible apply Blind.seq | with_reducible apply Blind.block))) | ((with_reducible apply T_draw (id := 19) 5 (OT.seq [(0, 3), (1, 0), (1, 1), (2, 2), (0, 4), (3, 5), (0, 6)] .nil)); kernel_rfl; exact rfl; kernel_rfl; (repeat (first | with_reducible exact Blind.body | with_reducible apply Blind.seq | with_reducible apply Blind.block))) | ((with_reducible (first | apply TD_e2z | apply TD_e3z | apply TL_e | apply TD_e2 | apply TD_e3)); ((with_reducible apply ES_callV (f := 27)); exact rfl; (intro w hw; exact eventLine_any ⟨xa, xb, ix, vv⟩ w hnum (hT.carry (hw.below0 rfl))); exact rfl); (first | exact rfl | exact ⟨rfl, rfl, rfl⟩); (rintro _ _ ⟨rfl, rfl⟩); (try refine ⟨SUB, ?_⟩)) | fail)
        all_goals first | (exfalso; omega) | (exfalso; contradiction) | skip
        all_goals
          ((with_reducible apply At_retM Tryd.results29); (repeat (first | exact ResIs.nil | (apply ResIs.tmp; exact rfl) | (apply ResIs.cell; exact rfl; exact Lds.auto))); intro w' hw)
          rw [hE2]
          exact ⟨⟨⟨xa, xb, ix, vv⟩, hE3⟩, rfl, (hw.anyN 0).sel (by (repeat (first | exact Sel.nil _ | (apply Sel.cons; (repeat (first | with_reducible exact Pick.here _ _ | with_reducible apply Pick.there))))))⟩
      · have hn : eventR l = none := by
          rw [hE]
          split
          · rename_i a b k v h0 h1 h2 h3
            exact absurd ⟨by rw [h0]; rfl, by rw [h1]; rfl, by rw [h3]; rfl, by rw [hix]; exact kdOf_pos h2⟩ hok
          · rfl
        rw [show (eventR l).isSome = false by rw [hn]; rfl]
        clear hE hg
        generalize (numR ws[0]).isSome = f0 at *
        generalize (numR ws[1]).isSome = f1 at *
        generalize (numR ws[3]).isSome = f3 at *
        repeat' (first | ((first | with_reducible (first | apply TL_q | apply TD_q0 | apply TD_q1 | apply TD_q2 | apply TD_q3) | ((with_reducible (first | apply TD_q0y | apply TD_q1y)); exact rfl; exact rfl; (with_reducible exact rfl))); (first | ((with_reducible apply QS_eqlBs); exact rfl; exact rfl) | exact QS.auto); exact rfl) | (refine GG ?_) | (refine GE ?_; (first | (rintro _ _ ⟨rfl, rfl⟩) | (rintro _ _ ⟨g, rfl, rfl⟩) | (rintro _ _ ⟨A', c', rfl, rfl⟩)); (try refine ⟨SUB, ?_⟩)) | ((refine GO2 ?_ ?_) <;> intro h <;> (try (repeat (first | with_reducible (replace h := of_decide_eq_true h) | with_reducible (replace h := of_decide_eq_false h) | with_reducible (replace h := bnt h) | with_reducible (replace h := bnf h) | with_reducible (replace h := Int.not_lt.mp h) | with_reducible (replace h := Int.not_le.mp h) | with_reducible (replace h := band_dec h) | with_reducible (replace h := band_decF h) | with_reducible (replace h := bor_dec h) | with_reducible (replace h := bor_decF h)))) <;> (try (exfalso; first | contradiction | omega))) | (refine GOF ?_ ?_) | fail)
        all_goals first | (exfalso; omega) | (exfalso; exact hok ⟨by assumption, by assumption, by assumption, by omega⟩) | skip
        all_goals
          ((with_reducible apply At_retM Tryd.results29); (repeat (first | exact ResIs.nil | (apply ResIs.tmp; exact rfl) | (apply ResIs.cell; exact rfl; exact Lds.auto))); intro w' hw)
          exact ⟨⟨⟨xa, xb, ix, vv⟩, fun u hu => by rw [hn] at hu; cases hu⟩, rfl, (hw.anyN 0).sel (by (repeat (first | exact Sel.nil _ | (apply Sel.cons; (repeat (first | with_reducible exact Pick.here _ _ | with_reducible apply Pick.there))))))⟩
end
end Go.Proofs.YthecmfhoaneejaaDoor
