/- Marks: which are right (the document's way). -/
import Derived.Test.YtnbgcgpkpakicaaS
import Derived.Test.YtnbgcgpkpakicaaTy
import Derived.Test.YtnbgcgpkpakicaaBetween
namespace Go.Proofs.Ytnbgcgpkpakicaa
open Go.RowKit

structure Mk where
  who : Int
  kind : Int
  letter : Int
def Mk.enc (x : Mk) : List Value := [.int .i64 x.who, .int .i64 x.kind, .int .i64 x.letter]
instance : Inhabited Mk := ⟨⟨0, 0, 0⟩⟩
/-- what stands ahead: how many were sent; whether this letter was; whether it was taken -/
def sentN (p : List Mk) : Nat := p.countP fun x => decide (x.kind = 1)
def wasB (p : List Mk) (n : Int) : Bool := p.any fun x => decide (x.kind = 1) && decide (x.letter = n)
def gotB (p : List Mk) (n : Int) : Bool := p.any fun x => decide (x.kind = 2) && decide (x.letter = n)
def markBad (x : Mk) : Prop := (x.who < 0 ∨ 7 < x.who) ∨ (x.kind < 0 ∨ 2 < x.kind) ∨ (x.kind = 0 ∧ x.letter ≠ 0)
instance (x : Mk) : Decidable (markBad x) := by unfold markBad; infer_instance
def markE (p : List Mk) (x : Mk) : Int :=
  if markBad x then 3
  else if x.kind = 1 ∧ x.letter ≠ sentN p then 1
  else if x.kind = 2 ∧ wasB p x.letter = false then 4
  else if x.kind = 2 ∧ gotB p x.letter = true then 5 else 0
theorem mark3 {p : List Mk} {x : Mk} (h : markBad x) : markE p x = 3 := if_pos h
theorem mark1 {p : List Mk} {x : Mk} (h : ¬ markBad x) (h1 : x.kind = 1) (h2 : ¬ x.letter = sentN p) : markE p x = 1 := by
  unfold markE; rw [if_neg h, if_pos ⟨h1, h2⟩]
theorem mark4 {p : List Mk} {x : Mk} (h : ¬ markBad x) (h1 : x.kind = 2) (h2 : wasB p x.letter = false) : markE p x = 4 := by
  unfold markE; rw [if_neg h, if_neg (fun e => by omega), if_pos ⟨h1, h2⟩]
theorem mark5 {p : List Mk} {x : Mk} (h : ¬ markBad x) (h1 : x.kind = 2) (h2 : wasB p x.letter = true) (h3 : gotB p x.letter = true) : markE p x = 5 := by
  unfold markE; rw [if_neg h, if_neg (fun e => by omega), if_neg (fun e => by rw [h2] at e; cases e.2), if_pos ⟨h1, h3⟩]
theorem mark0 {p : List Mk} {x : Mk} (h : ¬ markBad x) (h1 : x.kind = 1 → x.letter = sentN p) (h2 : x.kind = 2 → wasB p x.letter = true ∧ gotB p x.letter = false) : markE p x = 0 := by
  unfold markE
  rw [if_neg h, if_neg (fun e => e.2 (h1 e.1)), if_neg (fun e => by have := (h2 e.1).1; rw [this] at e; cases e.2), if_neg (fun e => by have := (h2 e.1).2; rw [this] at e; cases e.2)]
def markAt (l : List Mk) (k : Nat) : Int := markE (l.take k) (l.getD k default)
/-- the first mark that isn't right -/
def firstBad (l : List Mk) : Option Nat := (List.range l.length).find? fun k => decide (markAt l k ≠ 0)
def marksE (l : List Mk) : Int × Int := if 200 < l.length then (0, 2) else match firstBad l with
  | some k => (k, markAt l k)
  | none => (0, 0)
theorem sentN_succ {l : List Mk} {q : Nat} (hq : q < l.length) : sentN (l.take (q + 1)) = sentN (l.take q) + if l[q].kind = 1 then 1 else 0 := by
  rw [List.take_succ_eq_append_getElem hq, sentN, List.countP_append]
  by_cases h : l[q].kind = 1 <;> simp [sentN, h]
theorem wasB_succ {l : List Mk} {q : Nat} (hq : q < l.length) (n : Int) : wasB (l.take (q + 1)) n = (wasB (l.take q) n || (decide (l[q].kind = 1) && decide (l[q].letter = n))) := by
  rw [List.take_succ_eq_append_getElem hq, wasB, List.any_append]; simp [wasB]
theorem gotB_succ {l : List Mk} {q : Nat} (hq : q < l.length) (n : Int) : gotB (l.take (q + 1)) n = (gotB (l.take q) n || (decide (l[q].kind = 2) && decide (l[q].letter = n))) := by
  rw [List.take_succ_eq_append_getElem hq, gotB, List.any_append]; simp [gotB]
theorem marksE_long {l : List Mk} (h : 200 < l.length) : marksE l = (0, 2) := if_pos h
theorem marksE_at {l : List Mk} (h : ¬ 200 < l.length) {k : Nat} (hk : k < l.length) (hno : ∀ j, j < k → markAt l j = 0) (hb : markAt l k ≠ 0) : marksE l = ((k : Int), markAt l k) := by
  have hf : firstBad l = some k := by
    rw [firstBad, List.find?_range_eq_some]
    exact ⟨by simpa using hb, by simpa using hk, fun j hj => by simpa using hno j hj⟩
  unfold marksE; rw [if_neg h, hf]
theorem marksE_ok {l : List Mk} (h : ¬ 200 < l.length) (hno : ∀ j, j < l.length → markAt l j = 0) : marksE l = (0, 0) := by
  have hf : firstBad l = none := by
    rw [firstBad, List.find?_eq_none]
    intro j hj
    simpa using hno j (by simpa using hj)
  unfold marksE; rw [if_neg h, hf]
set_option maxRecDepth 100000 in
set_option maxHeartbeats 4000000 in
theorem marksRight_any (A : Option Addr) (c : Nat) (l : List Mk) (w : World) (hl : l.length ≤ 9223372036854775807) (hlc : l.length ≤ c) (hA : RdE Mk.enc 3 w A l) :
    Calls Try.prog 24 #[.slice A l.length c] w fun e w' => e = .returned (.tuple #[.int .i64 (marksE l).1, .int .i64 (marksE l).2]) ∧ Below w.heap.size w w' := by
  refine calls_T (S := []) [] Try.func24 rfl Try.ntmps24 (by simp) (Mem.nil _) ?_
  repeat' (first | first | with_reducible apply T_seq | with_reducible apply T_region | with_reducible apply TL_nil | with_reducible apply At_then | with_reducible apply T_block | with_reducible apply At_block | with_reducible apply T_skip | with_reducible apply T_exit | with_reducible apply At_then_exit | with_reducible apply At_block_exit | ((with_reducible apply At_block_past); exact rfl) | with_reducible apply T_ret | with_reducible apply At_then_ret | with_reducible apply At_block_ret | with_reducible apply TD_nil | with_reducible apply TD_fork | ((with_reducible apply TL_q); exact QS.auto; exact rfl) | ((with_reducible apply TL_e); exact ES.auto; exact rfl; (first | (rintro _ _ ⟨rfl, rfl⟩) | (rintro _ _ ⟨g, rfl, rfl⟩) | (rintro _ _ ⟨A', c', rfl, rfl⟩))) | (first | ((with_reducible apply TL_yes); exact rfl; exact rfl; (with_reducible exact rfl)) | ((with_reducible apply TL_no); exact rfl; exact rfl; (first | with_reducible exact Bool.not_true.symm | with_reducible exact Bool.not_false.symm); exact rfl) | ((with_reducible apply TL_no_undef); exact rfl; exact rfl; exact rfl) | (((with_reducible apply TL_guard); exact rfl; exact rfl; (fail_if_success (with_reducible refine imp_lit1 ?_)); (fail_if_success (with_reducible refine imp_lit0))) <;> intro h <;> (try (repeat (first | with_reducible (replace h := of_decide_eq_true h) | with_reducible (replace h := of_decide_eq_false h) | with_reducible (replace h := bnt h) | with_reducible (replace h := bnf h) | with_reducible (replace h := Int.not_lt.mp h) | with_reducible (replace h := Int.not_le.mp h) | with_reducible (replace h := band_dec h) | with_reducible (replace h := band_decF h) | with_reducible (replace h := bor_dec h) | with_reducible (replace h := bor_decF h)))) <;> (try (exfalso; first | contradiction | omega))) | (((with_reducible apply TD_guard); exact rfl; exact rfl; (fail_if_success (with_reducible refine imp_lit1 ?_)); (fail_if_success (with_reducible refine imp_lit0))) <;> intro h <;> (try (repeat (first | with_reducible (replace h := of_decide_eq_true h) | with_reducible (replace h := of_decide_eq_false h) | with_reducible (replace h := bnt h) | with_reducible (replace h := bnf h) | with_reducible (replace h := Int.not_lt.mp h) | with_reducible (replace h := Int.not_le.mp h) | with_reducible (replace h := band_dec h) | with_reducible (replace h := band_decF h) | with_reducible (replace h := bor_dec h) | with_reducible (replace h := bor_decF h)))) <;> (try (exfalso; first | contradiction | omega)))) | (((with_reducible apply T_cond); exact rfl) <;> intro h <;> (try (repeat (first | with_reducible (replace h := of_decide_eq_true h) | with_reducible (replace h := of_decide_eq_false h) | with_reducible (replace h := bnt h) | with_reducible (replace h := bnf h) | with_reducible (replace h := Int.not_lt.mp h) | with_reducible (replace h := Int.not_le.mp h) | with_reducible (replace h := band_dec h) | with_reducible (replace h := band_decF h) | with_reducible (replace h := bor_dec h) | with_reducible (replace h := bor_decF h)))) <;> (try (exfalso; first | contradiction | omega))) | fail)
  · (refine At_ret Try.results24 rfl (fun w' hw => ?_))
    exact ⟨by rw [marksE_long (by omega)]; rfl, hw.below0 rfl⟩
  · have hl2 : ¬ 200 < l.length := by omega
    refine T_loop (X := Nat) (fun k => [(16, .int .i64 (k : Nat)), (15, .int .i64 l.length), (14, .slice A l.length c), (0, .slice A l.length c)]) (fun _ => [])
      (fun k => k ≤ l.length ∧ ∀ j, j < k → markAt l j = 0) (fun k => l.length - k) 0 ⟨by omega, fun j hj => by omega⟩ (by (repeat (first | exact SubE.nil _ | refine SubE.cons rfl ?_))) (by (intro w hw; exact hw.sub (by first | ((repeat (first | with_reducible exact List.nil_sublist _ | with_reducible exact List.Sublist.refl _ | with_reducible apply List.Sublist.cons_cons | with_reducible apply List.Sublist.cons)); done) | (repeat (first | exact List.nil_sublist _ | exact List.Sublist.refl _ | apply List.Sublist.cons_cons | apply List.Sublist.cons))))) ?_
    rintro k ⟨hk, hno⟩
    by_cases hkl : k < l.length
    · obtain ⟨b, o, rfl, _⟩ := RdE.open hA (by omega)
      have hkc : k ≤ c := by omega
      have hg : l.getD k default = l[k] := by simp [hkl]
      repeat' (first | first | with_reducible apply T_seq | with_reducible apply T_region | with_reducible apply TL_nil | with_reducible apply At_then | with_reducible apply T_block | with_reducible apply At_block | with_reducible apply T_skip | with_reducible apply T_exit | with_reducible apply At_then_exit | with_reducible apply At_block_exit | ((with_reducible apply At_block_past); exact rfl) | with_reducible apply T_ret | with_reducible apply At_then_ret | with_reducible apply At_block_ret | with_reducible apply TD_nil | with_reducible apply TD_fork | ((with_reducible apply TL_q); exact QS.auto; exact rfl) | ((with_reducible apply TL_e); exact ES.auto; exact rfl; (first | (rintro _ _ ⟨rfl, rfl⟩) | (rintro _ _ ⟨g, rfl, rfl⟩) | (rintro _ _ ⟨A', c', rfl, rfl⟩))) | (first | ((with_reducible apply TL_yes); exact rfl; exact rfl; (with_reducible exact rfl)) | ((with_reducible apply TL_no); exact rfl; exact rfl; (first | with_reducible exact Bool.not_true.symm | with_reducible exact Bool.not_false.symm); exact rfl) | ((with_reducible apply TL_no_undef); exact rfl; exact rfl; exact rfl) | (((with_reducible apply TL_guard); exact rfl; exact rfl; (fail_if_success (with_reducible refine imp_lit1 ?_)); (fail_if_success (with_reducible refine imp_lit0))) <;> intro h <;> (try (repeat (first | with_reducible (replace h := of_decide_eq_true h) | with_reducible (replace h := of_decide_eq_false h) | with_reducible (replace h := bnt h) | with_reducible (replace h := bnf h) | with_reducible (replace h := Int.not_lt.mp h) | with_reducible (replace h := Int.not_le.mp h) | with_reducible (replace h := band_dec h) | with_reducible (replace h := band_decF h) | with_reducible (replace h := bor_dec h) | with_reducible (replace h := bor_decF h)))) <;> (try (exfalso; first | contradiction | omega))) | (((with_reducible apply TD_guard); exact rfl; exact rfl; (fail_if_success (with_reducible refine imp_lit1 ?_)); (fail_if_success (with_reducible refine imp_lit0))) <;> intro h <;> (try (repeat (first | with_reducible (replace h := of_decide_eq_true h) | with_reducible (replace h := of_decide_eq_false h) | with_reducible (replace h := bnt h) | with_reducible (replace h := bnf h) | with_reducible (replace h := Int.not_lt.mp h) | with_reducible (replace h := Int.not_le.mp h) | with_reducible (replace h := band_dec h) | with_reducible (replace h := band_decF h) | with_reducible (replace h := bor_dec h) | with_reducible (replace h := bor_decF h)))) <;> (try (exfalso; first | contradiction | omega)))) | (((with_reducible apply T_cond); exact rfl) <;> intro h <;> (try (repeat (first | with_reducible (replace h := of_decide_eq_true h) | with_reducible (replace h := of_decide_eq_false h) | with_reducible (replace h := bnt h) | with_reducible (replace h := bnf h) | with_reducible (replace h := Int.not_lt.mp h) | with_reducible (replace h := Int.not_le.mp h) | with_reducible (replace h := band_dec h) | with_reducible (replace h := band_decF h) | with_reducible (replace h := bor_dec h) | with_reducible (replace h := bor_decF h)))) <;> (try (exfalso; first | contradiction | omega))) | ((with_reducible apply TL_q); (with_reducible apply QS_sliceHigh); exact rfl; exact rfl; exact hkc; exact rfl) | fail)
      refine T_loop (X := Nat × Int × Bool × Bool)
        (fun x => [(25, .int .i64 (x.1 : Nat)), (24, .int .i64 (k : Nat)), (23, .slice (some ⟨b, o, none⟩) k c), (8, .bool x.2.2.2), (7, .bool x.2.2.1), (6, .int .i64 x.2.1), (5, .pointer (some ⟨g, 0, none⟩)), (4, .int .i64 (k : Nat)),
          (16, .int .i64 (k : Nat)), (15, .int .i64 l.length), (14, .slice (some ⟨b, o, none⟩) l.length c), (0, .slice (some ⟨b, o, none⟩) l.length c)]) (fun _ => [entBlk g 60 l[k].enc.toArray])
        (fun x => x.1 ≤ k ∧ x.2.1 = sentN (l.take x.1) ∧ x.2.2.1 = wasB (l.take x.1) l[k].letter ∧ x.2.2.2 = gotB (l.take x.1) l[k].letter) (fun x => k - x.1) (0, 0, false, false) ⟨by omega, by simp [sentN], by simp [wasB], by simp [gotB]⟩ (by (repeat (first | exact SubE.nil _ | refine SubE.cons rfl ?_))) (by (intro w hw; exact hw.sub (by first | ((repeat (first | with_reducible exact List.nil_sublist _ | with_reducible exact List.Sublist.refl _ | with_reducible apply List.Sublist.cons_cons | with_reducible apply List.Sublist.cons)); done) | (repeat (first | exact List.nil_sublist _ | exact List.Sublist.refl _ | apply List.Sublist.cons_cons | apply List.Sublist.cons))))) ?_
      rintro ⟨q, sn, was, got⟩ ⟨hq, e1, e2, e3⟩
      dsimp only at hq e1 e2 e3 ⊢
      by_cases hqk : q < k
      · have hql : q < l.length := by omega
        have f1 := sentN_succ hql
        have f2 := wasB_succ hql l[k].letter
        have f3 := gotB_succ hql l[k].letter
        rw [← e2] at f2
        rw [← e3] at f3
        have hsn : 0 ≤ sn ∧ sn ≤ 200 := by
          have : sentN (l.take q) ≤ (l.take q).length := List.countP_le_length
          rw [List.length_take] at this
          omega
        repeat' (first | first | with_reducible apply T_seq | with_reducible apply T_region | with_reducible apply TL_nil | with_reducible apply At_then | with_reducible apply T_block | with_reducible apply At_block | with_reducible apply T_skip | with_reducible apply T_exit | with_reducible apply At_then_exit | with_reducible apply At_block_exit | ((with_reducible apply At_block_past); exact rfl) | with_reducible apply T_ret | with_reducible apply At_then_ret | with_reducible apply At_block_ret | with_reducible apply TD_nil | with_reducible apply TD_fork | ((with_reducible apply TL_q); exact QS.auto; exact rfl) | ((with_reducible apply TL_e); exact ES.auto; exact rfl; (first | (rintro _ _ ⟨rfl, rfl⟩) | (rintro _ _ ⟨g, rfl, rfl⟩) | (rintro _ _ ⟨A', c', rfl, rfl⟩))) | (first | ((with_reducible apply TL_yes); exact rfl; exact rfl; (with_reducible exact rfl)) | ((with_reducible apply TL_no); exact rfl; exact rfl; (first | with_reducible exact Bool.not_true.symm | with_reducible exact Bool.not_false.symm); exact rfl) | ((with_reducible apply TL_no_undef); exact rfl; exact rfl; exact rfl) | (((with_reducible apply TL_guard); exact rfl; exact rfl; (fail_if_success (with_reducible refine imp_lit1 ?_)); (fail_if_success (with_reducible refine imp_lit0))) <;> intro h <;> (try (repeat (first | with_reducible (replace h := of_decide_eq_true h) | with_reducible (replace h := of_decide_eq_false h) | with_reducible (replace h := bnt h) | with_reducible (replace h := bnf h) | with_reducible (replace h := Int.not_lt.mp h) | with_reducible (replace h := Int.not_le.mp h) | with_reducible (replace h := band_dec h) | with_reducible (replace h := band_decF h) | with_reducible (replace h := bor_dec h) | with_reducible (replace h := bor_decF h)))) <;> (try (exfalso; first | contradiction | omega))) | (((with_reducible apply TD_guard); exact rfl; exact rfl; (fail_if_success (with_reducible refine imp_lit1 ?_)); (fail_if_success (with_reducible refine imp_lit0))) <;> intro h <;> (try (repeat (first | with_reducible (replace h := of_decide_eq_true h) | with_reducible (replace h := of_decide_eq_false h) | with_reducible (replace h := bnt h) | with_reducible (replace h := bnf h) | with_reducible (replace h := Int.not_lt.mp h) | with_reducible (replace h := Int.not_le.mp h) | with_reducible (replace h := band_dec h) | with_reducible (replace h := band_decF h) | with_reducible (replace h := bor_dec h) | with_reducible (replace h := bor_decF h)))) <;> (try (exfalso; first | contradiction | omega)))) | (((with_reducible apply T_cond); exact rfl) <;> intro h <;> (try (repeat (first | with_reducible (replace h := of_decide_eq_true h) | with_reducible (replace h := of_decide_eq_false h) | with_reducible (replace h := bnt h) | with_reducible (replace h := bnf h) | with_reducible (replace h := Int.not_lt.mp h) | with_reducible (replace h := Int.not_le.mp h) | with_reducible (replace h := band_dec h) | with_reducible (replace h := band_decF h) | with_reducible (replace h := bor_dec h) | with_reducible (replace h := bor_decF h)))) <;> (try (exfalso; first | contradiction | omega))) | fail)
        all_goals
          apply At_rounds (q + 1, _, _, _)
          case hE => ((repeat (first | exact SubE.nil _ | refine SubE.cons rfl ?_)))
          case hS => ((intro w hw; exact hw.sub (by first | ((repeat (first | with_reducible exact List.nil_sublist _ | with_reducible exact List.Sublist.refl _ | with_reducible apply List.Sublist.cons_cons | with_reducible apply List.Sublist.cons)); done) | (repeat (first | exact List.nil_sublist _ | exact List.Sublist.refl _ | apply List.Sublist.cons_cons | apply List.Sublist.cons)))))
          case hμ => (dsimp only; omega)
          case hp =>
            refine ⟨by dsimp only; omega, ?_, ?_, ?_⟩
            · dsimp only; rw [f1]; split <;> omega
            · dsimp only
              first
                | (rw [f2, show was = true by assumption]; rfl)
                | (rw [f2, show was = false by assumption, decide_eq_true (show l[q].kind = 1 by assumption)]; rfl)
                | (rw [f2, decide_eq_false (show ¬ l[q].kind = 1 by assumption)]; simp)
            · dsimp only
              first
                | (rw [f3, show got = true by assumption]; rfl)
                | (rw [f3, show got = false by assumption, decide_eq_true (show l[q].kind = 2 by assumption)]; rfl)
                | (rw [f3, show got = false by assumption, decide_eq_false (show ¬ l[q].kind = 2 by assumption)]; rfl)
      · obtain rfl : q = k := by omega
        have ub : markBad l[q] ↔ ((l[q].who < 0 ∨ 7 < l[q].who) ∨ (l[q].kind < 0 ∨ 2 < l[q].kind) ∨ (l[q].kind = 0 ∧ l[q].letter ≠ 0)) := Iff.rfl
        repeat' (first | first | with_reducible apply T_seq | with_reducible apply T_region | with_reducible apply TL_nil | with_reducible apply At_then | with_reducible apply T_block | with_reducible apply At_block | with_reducible apply T_skip | with_reducible apply T_exit | with_reducible apply At_then_exit | with_reducible apply At_block_exit | ((with_reducible apply At_block_past); exact rfl) | with_reducible apply T_ret | with_reducible apply At_then_ret | with_reducible apply At_block_ret | with_reducible apply TD_nil | with_reducible apply TD_fork | ((with_reducible apply TL_q); exact QS.auto; exact rfl) | ((with_reducible apply TL_e); exact ES.auto; exact rfl; (first | (rintro _ _ ⟨rfl, rfl⟩) | (rintro _ _ ⟨g, rfl, rfl⟩) | (rintro _ _ ⟨A', c', rfl, rfl⟩))) | (first | ((with_reducible apply TL_yes); exact rfl; exact rfl; (with_reducible exact rfl)) | ((with_reducible apply TL_no); exact rfl; exact rfl; (first | with_reducible exact Bool.not_true.symm | with_reducible exact Bool.not_false.symm); exact rfl) | ((with_reducible apply TL_no_undef); exact rfl; exact rfl; exact rfl) | (((with_reducible apply TL_guard); exact rfl; exact rfl; (fail_if_success (with_reducible refine imp_lit1 ?_)); (fail_if_success (with_reducible refine imp_lit0))) <;> intro h <;> (try (repeat (first | with_reducible (replace h := of_decide_eq_true h) | with_reducible (replace h := of_decide_eq_false h) | with_reducible (replace h := bnt h) | with_reducible (replace h := bnf h) | with_reducible (replace h := Int.not_lt.mp h) | with_reducible (replace h := Int.not_le.mp h) | with_reducible (replace h := band_dec h) | with_reducible (replace h := band_decF h) | with_reducible (replace h := bor_dec h) | with_reducible (replace h := bor_decF h)))) <;> (try (exfalso; first | contradiction | omega))) | (((with_reducible apply TD_guard); exact rfl; exact rfl; (fail_if_success (with_reducible refine imp_lit1 ?_)); (fail_if_success (with_reducible refine imp_lit0))) <;> intro h <;> (try (repeat (first | with_reducible (replace h := of_decide_eq_true h) | with_reducible (replace h := of_decide_eq_false h) | with_reducible (replace h := bnt h) | with_reducible (replace h := bnf h) | with_reducible (replace h := Int.not_lt.mp h) | with_reducible (replace h := Int.not_le.mp h) | with_reducible (replace h := band_dec h) | with_reducible (replace h := band_decF h) | with_reducible (replace h := bor_dec h) | with_reducible (replace h := bor_decF h)))) <;> (try (exfalso; first | contradiction | omega)))) | (((with_reducible apply T_cond); exact rfl) <;> intro h <;> (try (repeat (first | with_reducible (replace h := of_decide_eq_true h) | with_reducible (replace h := of_decide_eq_false h) | with_reducible (replace h := bnt h) | with_reducible (replace h := bnf h) | with_reducible (replace h := Int.not_lt.mp h) | with_reducible (replace h := Int.not_le.mp h) | with_reducible (replace h := band_dec h) | with_reducible (replace h := band_decF h) | with_reducible (replace h := bor_dec h) | with_reducible (replace h := bor_decF h)))) <;> (try (exfalso; first | contradiction | omega))) | first | ((with_reducible apply TL_e); ((with_reducible apply ES_callV (f := 16)); exact rfl; (intro w hw; exact Calls.same_below (between_any _ _ _ _)); exact rfl); exact rfl; (rintro _ _ ⟨rfl, rfl⟩)) | ((with_reducible apply TD_e2); ((with_reducible apply ES_callV (f := 16)); exact rfl; (intro w hw; exact Calls.same_below (between_any _ _ _ _)); exact rfl); exact rfl; (rintro _ _ ⟨rfl, rfl⟩); refine ⟨by (repeat (first | with_reducible exact List.nil_sublist _ | with_reducible exact List.Sublist.refl _ | with_reducible apply List.Sublist.cons_cons | with_reducible apply List.Sublist.cons)), ?_⟩) | ((with_reducible apply TD_e3); ((with_reducible apply ES_callV (f := 16)); exact rfl; (intro w hw; exact Calls.same_below (between_any _ _ _ _)); exact rfl); exact rfl; (rintro _ _ ⟨rfl, rfl⟩)) | ((with_reducible apply TD_e2y); exact rfl; exact rfl; (with_reducible exact rfl); ((with_reducible apply ES_callV (f := 16)); exact rfl; (intro w hw; exact Calls.same_below (between_any _ _ _ _)); exact rfl); (rintro _ _ ⟨rfl, rfl⟩); refine ⟨by (repeat (first | with_reducible exact List.nil_sublist _ | with_reducible exact List.Sublist.refl _ | with_reducible apply List.Sublist.cons_cons | with_reducible apply List.Sublist.cons)), ?_⟩) | ((with_reducible apply TD_e3y); exact rfl; exact rfl; (with_reducible exact rfl); ((with_reducible apply ES_callV (f := 16)); exact rfl; (intro w hw; exact Calls.same_below (between_any _ _ _ _)); exact rfl); (rintro _ _ ⟨rfl, rfl⟩)) | fail)
        all_goals first
          | (have hm : markAt l q = 3 := by rw [markAt, hg]; exact mark3 (ub.2 (by omega))
             (refine At_ret Try.results24 rfl (fun w' hw => ?_))
             exact ⟨by rw [marksE_at hl2 hkl hno (by rw [hm]; decide), hm]; rfl, hw.below0 rfl⟩)
          | (have hm : markAt l q = 1 := by rw [markAt, hg]; exact mark1 (fun e => by have := ub.1 e; omega) (by assumption) (by omega)
             (refine At_ret Try.results24 rfl (fun w' hw => ?_))
             exact ⟨by rw [marksE_at hl2 hkl hno (by rw [hm]; decide), hm]; rfl, hw.below0 rfl⟩)
          | (have hm : markAt l q = 4 := by rw [markAt, hg]; exact mark4 (fun e => by have := ub.1 e; omega) (by assumption) (by rw [← e2]; assumption)
             (refine At_ret Try.results24 rfl (fun w' hw => ?_))
             exact ⟨by rw [marksE_at hl2 hkl hno (by rw [hm]; decide), hm]; rfl, hw.below0 rfl⟩)
          | (have hm : markAt l q = 5 := by rw [markAt, hg]; exact mark5 (fun e => by have := ub.1 e; omega) (by assumption) (by rw [← e2]; assumption) (by rw [← e3]; assumption)
             (refine At_ret Try.results24 rfl (fun w' hw => ?_))
             exact ⟨by rw [marksE_at hl2 hkl hno (by rw [hm]; decide), hm]; rfl, hw.below0 rfl⟩)
          | (have hm : markAt l q = 0 := by
               rw [markAt, hg]
               refine mark0 (fun e => by have := ub.1 e; omega) (fun e => by omega) (fun e => ?_)
               first
               | (exfalso; omega)
               | exact ⟨by rw [← e2]; assumption, by rw [← e3]; assumption⟩
             (refine At_rounds (q + 1) ?_ ?_ ?_ ?_; (exact ⟨by omega, fun j hj => by
               by_cases ej : j = q
               · rw [ej]; exact hm
               · exact hno j (by omega)⟩); (omega); ((repeat (first | exact SubE.nil _ | refine SubE.cons rfl ?_))); ((intro w hw; exact hw.sub (by first | ((repeat (first | with_reducible exact List.nil_sublist _ | with_reducible exact List.Sublist.refl _ | with_reducible apply List.Sublist.cons_cons | with_reducible apply List.Sublist.cons)); done) | (repeat (first | exact List.nil_sublist _ | exact List.Sublist.refl _ | apply List.Sublist.cons_cons | apply List.Sublist.cons)))))))
    · obtain rfl : k = l.length := by omega
      repeat' (first | first | with_reducible apply T_seq | with_reducible apply T_region | with_reducible apply TL_nil | with_reducible apply At_then | with_reducible apply T_block | with_reducible apply At_block | with_reducible apply T_skip | with_reducible apply T_exit | with_reducible apply At_then_exit | with_reducible apply At_block_exit | ((with_reducible apply At_block_past); exact rfl) | with_reducible apply T_ret | with_reducible apply At_then_ret | with_reducible apply At_block_ret | with_reducible apply TD_nil | with_reducible apply TD_fork | ((with_reducible apply TL_q); exact QS.auto; exact rfl) | ((with_reducible apply TL_e); exact ES.auto; exact rfl; (first | (rintro _ _ ⟨rfl, rfl⟩) | (rintro _ _ ⟨g, rfl, rfl⟩) | (rintro _ _ ⟨A', c', rfl, rfl⟩))) | (first | ((with_reducible apply TL_yes); exact rfl; exact rfl; (with_reducible exact rfl)) | ((with_reducible apply TL_no); exact rfl; exact rfl; (first | with_reducible exact Bool.not_true.symm | with_reducible exact Bool.not_false.symm); exact rfl) | ((with_reducible apply TL_no_undef); exact rfl; exact rfl; exact rfl) | (((with_reducible apply TL_guard); exact rfl; exact rfl; (fail_if_success (with_reducible refine imp_lit1 ?_)); (fail_if_success (with_reducible refine imp_lit0))) <;> intro h <;> (try (repeat (first | with_reducible (replace h := of_decide_eq_true h) | with_reducible (replace h := of_decide_eq_false h) | with_reducible (replace h := bnt h) | with_reducible (replace h := bnf h) | with_reducible (replace h := Int.not_lt.mp h) | with_reducible (replace h := Int.not_le.mp h) | with_reducible (replace h := band_dec h) | with_reducible (replace h := band_decF h) | with_reducible (replace h := bor_dec h) | with_reducible (replace h := bor_decF h)))) <;> (try (exfalso; first | contradiction | omega))) | (((with_reducible apply TD_guard); exact rfl; exact rfl; (fail_if_success (with_reducible refine imp_lit1 ?_)); (fail_if_success (with_reducible refine imp_lit0))) <;> intro h <;> (try (repeat (first | with_reducible (replace h := of_decide_eq_true h) | with_reducible (replace h := of_decide_eq_false h) | with_reducible (replace h := bnt h) | with_reducible (replace h := bnf h) | with_reducible (replace h := Int.not_lt.mp h) | with_reducible (replace h := Int.not_le.mp h) | with_reducible (replace h := band_dec h) | with_reducible (replace h := band_decF h) | with_reducible (replace h := bor_dec h) | with_reducible (replace h := bor_decF h)))) <;> (try (exfalso; first | contradiction | omega)))) | (((with_reducible apply T_cond); exact rfl) <;> intro h <;> (try (repeat (first | with_reducible (replace h := of_decide_eq_true h) | with_reducible (replace h := of_decide_eq_false h) | with_reducible (replace h := bnt h) | with_reducible (replace h := bnf h) | with_reducible (replace h := Int.not_lt.mp h) | with_reducible (replace h := Int.not_le.mp h) | with_reducible (replace h := band_dec h) | with_reducible (replace h := band_decF h) | with_reducible (replace h := bor_dec h) | with_reducible (replace h := bor_decF h)))) <;> (try (exfalso; first | contradiction | omega))) | fail)
      (refine At_ret Try.results24 rfl (fun w' hw => ?_))
      exact ⟨by rw [marksE_ok hl2 (fun j hj => hno j hj)]; rfl, hw.below0 rfl⟩
end Go.Proofs.Ytnbgcgpkpakicaa
