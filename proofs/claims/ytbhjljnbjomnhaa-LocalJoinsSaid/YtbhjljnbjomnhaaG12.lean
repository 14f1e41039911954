/- Lemmas for the walks (OrdL, OrdC, Reach, OrdF, Ser4, Jo1). No condition. -/
import Derived.Test.YtbhjljnbjomnhaaG11
import Derived.Test.YtbhjljnbjomnhaaG09
import Derived.Test.YtbhjljnbjomnhaaG05
import Derived.Test.YtbhjljnbjomnhaaG10
import Derived.Test.YtbhjljnbjomnhaaG04
set_option linter.unusedSimpArgs false
set_option linter.unusedVariables false
set_option linter.unusedSectionVars false
set_option linter.unnecessarySimpa false
namespace Go.Proofs.Ytbhjljnbjomnhaa
open Go.RowKit

set_option maxRecDepth 100000 in
set_option maxHeartbeats 4000000 in
theorem least_bad (n : Int) (f : Nat → Nat) (w : World) (hf : ∀ i, i < 12 → f i < 65536) (h0 : ¬ chkR n f = 0) :
    Calls Try.prog 55 #[.agg (relCells n f)] w fun e w' => e = .returned (.tuple #[.slice none 0 0, .int .i64 (chkR n f)]) ∧ Below w.heap.size w w' := by
  refine calls_T (S := []) [] Try.func55 rfl Try.ntmps55 (by simp) (Mem.nil _) ?_
  repeat' (first | (refine GO ?_) | (refine GOE ?_; (first | (rintro _ _ ⟨rfl, rfl⟩) | (rintro _ _ ⟨g, rfl, rfl⟩) | (rintro _ _ ⟨A', c', rfl, rfl⟩))) | ((refine GO2 ?_ ?_) <;> intro h <;> (try (repeat (first | with_reducible (replace h := of_decide_eq_true h) | with_reducible (replace h := of_decide_eq_false h) | with_reducible (replace h := bnt h) | with_reducible (replace h := bnf h) | with_reducible (replace h := Int.not_lt.mp h) | with_reducible (replace h := Int.not_le.mp h) | with_reducible (replace h := band_dec h) | with_reducible (replace h := band_decF h) | with_reducible (replace h := bor_dec h) | with_reducible (replace h := bor_decF h)))) <;> (try (exfalso; first | contradiction | omega))) | ((with_reducible (first | apply TD_e2z | apply TD_e3z | apply TL_e | apply TD_e2 | apply TD_e3)); ((with_reducible apply ES_callV); exact rfl; (intro w hw; exact acyclic_bad n f w hf h0); exact rfl); (first | exact rfl | exact ⟨rfl, rfl, rfl⟩); (rintro _ _ ⟨rfl, rfl⟩); (try refine ⟨SUB, ?_⟩)) | fail)
  (refine At_ret Try.results55 rfl (fun w' hw => ?_))
  exact ⟨rfl, hw.below0 rfl⟩
set_option maxRecDepth 100000 in
set_option maxHeartbeats 4000000 in
theorem least_cyc (n : Nat) (f : Nat → Nat) (w : World) (hn : n ≤ 12) (hf : ∀ i, i < 12 → f i < 65536) (h0 : chkR n f = 0) (hc : isCyc n (closedF n f) = true) :
    Calls Try.prog 55 #[.agg (relCells n f)] w fun e w' => e = .returned (.tuple #[.slice none 0 0, .int .i64 4]) ∧ Below w.heap.size w w' := by
  refine calls_T (S := []) [] Try.func55 rfl Try.ntmps55 (by simp) (Mem.nil _) ?_
  repeat' (first | (refine GO ?_) | (refine GOE ?_; (first | (rintro _ _ ⟨rfl, rfl⟩) | (rintro _ _ ⟨g, rfl, rfl⟩) | (rintro _ _ ⟨A', c', rfl, rfl⟩))) | ((refine GO2 ?_ ?_) <;> intro h <;> (try (repeat (first | with_reducible (replace h := of_decide_eq_true h) | with_reducible (replace h := of_decide_eq_false h) | with_reducible (replace h := bnt h) | with_reducible (replace h := bnf h) | with_reducible (replace h := Int.not_lt.mp h) | with_reducible (replace h := Int.not_le.mp h) | with_reducible (replace h := band_dec h) | with_reducible (replace h := band_decF h) | with_reducible (replace h := bor_dec h) | with_reducible (replace h := bor_decF h)))) <;> (try (exfalso; first | contradiction | omega))) | ((with_reducible (first | apply TD_e2z | apply TD_e3z | apply TL_e | apply TD_e2 | apply TD_e3)); ((with_reducible apply ES_callV); exact rfl; (intro w hw; exact acyclic_cyc n f w hn hf h0 hc); exact rfl); (first | exact rfl | exact ⟨rfl, rfl, rfl⟩); (rintro _ _ ⟨rfl, rfl⟩); (try refine ⟨SUB, ?_⟩)) | fail)
  (refine At_ret Try.results55 rfl (fun w' hw => ?_))
  exact ⟨rfl, hw.below0 rfl⟩
end Go.Proofs.Ytbhjljnbjomnhaa

namespace Go.Proofs.Ytbhjljnbjomnhaa
open Go.RowKit

def idxQ (l : List Int) (v : Int) : Int := match l.findIdx? (fun x => decide (v = x)) with
  | some k => k
  | none => -1
theorem idxQ_at {l : List Int} {v : Int} {k : Nat} (hk : k < l.length) (hno : ∀ j (hj : j < l.length), j < k → ¬ v = l[j]) (h : v = l[k]) : idxQ l v = k := by
  have : l.findIdx? (fun x => decide (v = x)) = some k := by
    rw [List.findIdx?_eq_some_iff_getElem]
    exact ⟨hk, by simpa using h, fun j hj => by simpa using hno j (by omega) hj⟩
  simp [idxQ, this]
theorem idxQ_no {l : List Int} {v : Int} (hno : ∀ j (hj : j < l.length), ¬ v = l[j]) : idxQ l v = -1 := by
  have : l.findIdx? (fun x => decide (v = x)) = none := by
    rw [List.findIdx?_eq_none_iff]
    intro x hx
    obtain ⟨j, hj, rfl⟩ := List.getElem_of_mem hx
    simpa using hno j hj
  simp [idxQ, this]
theorem idxQ_nonneg (l : List Int) (v : Int) : decide (0 ≤ idxQ l v) = l.contains v := by
  by_cases h : v ∈ l
  · obtain ⟨k, hk⟩ : ∃ k, l.findIdx? (fun x => decide (v = x)) = some k := by
      cases hf : l.findIdx? (fun x => decide (v = x)) with
      | some k => exact ⟨k, rfl⟩
      | none =>
        rw [List.findIdx?_eq_none_iff] at hf
        have := hf v h
        simp at this
    simp [idxQ, hk, h]
  · have hf : l.findIdx? (fun x => decide (v = x)) = none := by
      rw [List.findIdx?_eq_none_iff]
      intro x hx
      have : ¬ v = x := fun e => h (e ▸ hx)
      simpa using this
    simp [idxQ, hf, h]
set_option maxRecDepth 100000 in
set_option maxHeartbeats 4000000 in
theorem indexQ_any (A : Option Addr) (c : Nat) (l : List Int) (v : Int) (w : World) (hl : l.length ≤ 4611686018427387904) (hR : RdInt w A l) :
    Calls Try.prog 111 #[.slice A l.length c, .int .i64 v] w fun e w' => e = .returned (.int .i64 (idxQ l v)) ∧ Below w.heap.size w w' := by
  refine calls_T (S := []) [] Try.func111 rfl Try.ntmps111 (by simp) (Mem.nil _) ?_
  repeat' (first | (refine GO ?_) | (refine GOE ?_; (first | (rintro _ _ ⟨rfl, rfl⟩) | (rintro _ _ ⟨g, rfl, rfl⟩) | (rintro _ _ ⟨A', c', rfl, rfl⟩))) | ((refine GO2 ?_ ?_) <;> intro h <;> (try (repeat (first | with_reducible (replace h := of_decide_eq_true h) | with_reducible (replace h := of_decide_eq_false h) | with_reducible (replace h := bnt h) | with_reducible (replace h := bnf h) | with_reducible (replace h := Int.not_lt.mp h) | with_reducible (replace h := Int.not_le.mp h) | with_reducible (replace h := band_dec h) | with_reducible (replace h := band_decF h) | with_reducible (replace h := bor_dec h) | with_reducible (replace h := bor_decF h)))) <;> (try (exfalso; first | contradiction | omega))) | fail)
  refine T_loop (X := Nat) (fun k => [(8, .int .i64 (k : Nat)), (7, .int .i64 (l.length : Nat)), (1, .int .i64 v), (0, .slice A l.length c)]) (fun _ => [])
    (fun k => k ≤ l.length ∧ ∀ j (hj : j < l.length), j < k → ¬ v = l[j]) (fun k => l.length - k) 0 ⟨by omega, fun j hj h => by omega⟩ (by (repeat (first | exact SubE.nil _ | refine SubE.cons rfl ?_))) (by exact SUBS) ?_
  rintro k ⟨hk, hno⟩
  by_cases hkl : k < l.length
  · obtain ⟨b, o, rfl, _⟩ := RdE.open hR (by omega)
    repeat' (first | (refine GO ?_) | (refine GOE ?_; (first | (rintro _ _ ⟨rfl, rfl⟩) | (rintro _ _ ⟨g, rfl, rfl⟩) | (rintro _ _ ⟨A', c', rfl, rfl⟩))) | ((refine GO2 ?_ ?_) <;> intro h <;> (try (repeat (first | with_reducible (replace h := of_decide_eq_true h) | with_reducible (replace h := of_decide_eq_false h) | with_reducible (replace h := bnt h) | with_reducible (replace h := bnf h) | with_reducible (replace h := Int.not_lt.mp h) | with_reducible (replace h := Int.not_le.mp h) | with_reducible (replace h := band_dec h) | with_reducible (replace h := band_decF h) | with_reducible (replace h := bor_dec h) | with_reducible (replace h := bor_decF h)))) <;> (try (exfalso; first | contradiction | omega))) | fail)
    · (refine At_ret Try.results111 rfl (fun w' hw => ?_))
      exact ⟨by rw [idxQ_at hkl hno (by assumption)]; rfl, hw.below0 rfl⟩
    · (refine At_rounds (k + 1) ?_ ?_ ?_ ?_; (exact ⟨by omega, fun j hj hjk => by
        by_cases e : j = k
        · subst e; assumption
        · exact hno j hj (by omega)⟩); (omega); ((repeat (first | exact SubE.nil _ | refine SubE.cons rfl ?_))); (exact SUBS))
  · obtain rfl : k = l.length := by omega
    repeat' (first | (refine GO ?_) | (refine GOE ?_; (first | (rintro _ _ ⟨rfl, rfl⟩) | (rintro _ _ ⟨g, rfl, rfl⟩) | (rintro _ _ ⟨A', c', rfl, rfl⟩))) | ((refine GO2 ?_ ?_) <;> intro h <;> (try (repeat (first | with_reducible (replace h := of_decide_eq_true h) | with_reducible (replace h := of_decide_eq_false h) | with_reducible (replace h := bnt h) | with_reducible (replace h := bnf h) | with_reducible (replace h := Int.not_lt.mp h) | with_reducible (replace h := Int.not_le.mp h) | with_reducible (replace h := band_dec h) | with_reducible (replace h := band_decF h) | with_reducible (replace h := bor_dec h) | with_reducible (replace h := bor_decF h)))) <;> (try (exfalso; first | contradiction | omega))) | fail)
    (refine At_ret Try.results111 rfl (fun w' hw => ?_))
    exact ⟨by rw [idxQ_no fun j hj => hno j hj hj]; rfl, hw.below0 rfl⟩
set_option maxRecDepth 100000 in
set_option maxHeartbeats 4000000 in
theorem containsQ_any (A : Option Addr) (c : Nat) (l : List Int) (v : Int) (w : World) (hl : l.length ≤ 4611686018427387904) (hR : RdInt w A l) :
    Calls Try.prog 56 #[.slice A l.length c, .int .i64 v] w fun e w' => e = .returned (.bool (l.contains v)) ∧ Below w.heap.size w w' := by
  refine calls_T (S := []) [] Try.func56 rfl Try.ntmps56 (by simp) (Mem.nil _) ?_
  repeat' (first | (refine GO ?_) | (refine GOE ?_; (first | (rintro _ _ ⟨rfl, rfl⟩) | (rintro _ _ ⟨g, rfl, rfl⟩) | (rintro _ _ ⟨A', c', rfl, rfl⟩))) | ((refine GO2 ?_ ?_) <;> intro h <;> (try (repeat (first | with_reducible (replace h := of_decide_eq_true h) | with_reducible (replace h := of_decide_eq_false h) | with_reducible (replace h := bnt h) | with_reducible (replace h := bnf h) | with_reducible (replace h := Int.not_lt.mp h) | with_reducible (replace h := Int.not_le.mp h) | with_reducible (replace h := band_dec h) | with_reducible (replace h := band_decF h) | with_reducible (replace h := bor_dec h) | with_reducible (replace h := bor_decF h)))) <;> (try (exfalso; first | contradiction | omega))) | ((with_reducible (first | apply TD_e2z | apply TD_e3z | apply TL_e | apply TD_e2 | apply TD_e3)); ((with_reducible apply ES_callV); exact rfl; (intro w hw; exact indexQ_any A c l v w hl (hw.rd rfl hR)); exact rfl); (first | exact rfl | exact ⟨rfl, rfl, rfl⟩); (rintro _ _ ⟨rfl, rfl⟩); (try refine ⟨SUB, ?_⟩)) | fail)
  (refine At_ret Try.results56 rfl (fun w' hw => ?_))
  exact ⟨by rw [← idxQ_nonneg]; rfl, hw.below0 rfl⟩
theorem natL_contains (l : List Nat) (k : Nat) : (natL l).contains (k : Int) = l.contains k := by
  induction l with
  | nil => rfl
  | cons x l ih =>
    have e : natL (x :: l) = (x : Int) :: natL l := rfl
    have h : (((k : Nat) : Int) == (x : Int)) = (k == x) := by
      by_cases h : k = x
      · subst h; rw [beq_self_eq_true, beq_self_eq_true]
      · have h1 : ((k : Int) == (x : Int)) = false := beq_eq_false_iff_ne.2 (by omega)
        have h2 : (k == x) = false := beq_eq_false_iff_ne.2 h
        rw [h1, h2]
    rw [e, List.contains_cons, List.contains_cons, ih, h]
theorem RdE.natInt {w : World} {A : Option Addr} {l : List Nat} (h : RdE natEnc 1 w A l) : RdInt w A (natL l) := by
  intro i x hx
  simp only [natL, List.getElem?_map, Option.map_eq_some_iff] at hx
  obtain ⟨k, hk, rfl⟩ := hx
  exact h i k hk
theorem containsN_any (A : Option Addr) (c : Nat) (l : List Nat) (v : Nat) (w : World) (hl : l.length ≤ 1000) (hR : RdE natEnc 1 w A l) :
    Calls Try.prog 56 #[.slice A l.length c, .int .i64 (v : Nat)] w fun e w' => e = .returned (.bool (l.contains v)) ∧ Below w.heap.size w w' := by
  have := containsQ_any A c (natL l) (v : Int) w (by rw [natL_len]; omega) hR.natInt
  rw [natL_len, natL_contains] at this
  exact this
def mayTo (f : Nat → Nat) (out : List Nat) (i j : Nat) : Bool := !out.contains i && (List.range j).all fun k => !(f k).testBit i || out.contains k
theorem mayTo_succ (f : Nat → Nat) (out : List Nat) (i j : Nat) : mayTo f out i (j + 1) = (mayTo f out i j && (!(f j).testBit i || out.contains j)) := by
  simp [mayTo, List.range_succ, Bool.and_assoc]
end Go.Proofs.Ytbhjljnbjomnhaa

namespace Go.Proofs.Ytbhjljnbjomnhaa

/-- by at least one step -/
inductive Rch (g : Nat → Nat → Prop) : Nat → Nat → Prop
  | one {i j : Nat} (h : g i j) : Rch g i j
  | step {i k j : Nat} (h : g i k) (t : Rch g k j) : Rch g i j
theorem Rch.trans {g : Nat → Nat → Prop} {i j : Nat} (h : Rch g i j) : ∀ {k}, Rch g j k → Rch g i k := by
  induction h with
  | one h => exact fun t => .step h t
  | step h _ ih => exact fun t => .step h (ih t)
def bitR (f : Nat → Nat) (i j : Nat) : Prop := (f i).testBit j = true
theorem wIn_bit (f : Nat → Nat) (k : Nat) : ∀ m i, i < m ∨ m ≤ i → ∀ j, (wIn f k m i).testBit j = if i < m then (f i).testBit j || ((f i).testBit k && (f k).testBit j) else (f i).testBit j
  | 0, i, _, j => by simp [wIn]
  | m + 1, i, _, j => by
    have ih := fun i => wIn_bit f k m i (by omega)
    have ek : ∀ j, (wIn f k m k).testBit j = (f k).testBit j := by
      intro j; rw [ih k j]; split <;> simp
    show (wStep k (wIn f k m) m i).testBit j = _
    unfold wStep
    have em : (wIn f k m m).testBit k = (f m).testBit k := by rw [ih m k, if_neg (by omega)]
    rw [em]
    split
    · rename_i hb
      unfold upd
      by_cases him : i = m
      · subst him
        simp only [if_true, Nat.testBit_or, ek]
        rw [ih i j, if_neg (by omega), if_pos (by omega)]
        simp [hb]
      · simp only [him, if_false]
        rw [ih i j]
        by_cases h2 : i < m
        · rw [if_pos h2, if_pos (by omega)]
        · rw [if_neg h2, if_neg (by omega)]
    · rename_i hb
      rw [ih i j]
      by_cases him : i = m
      · subst him
        rw [if_neg (by omega), if_pos (by omega)]
        simp [hb]
      · by_cases h2 : i < m
        · rw [if_pos h2, if_pos (by omega)]
        · rw [if_neg h2, if_neg (by omega)]
theorem wOut_bit (f : Nat → Nat) (n k i j : Nat) (hi : i < n) : (wOut f n (k + 1) i).testBit j = ((wOut f n k i).testBit j || ((wOut f n k i).testBit k && (wOut f n k k).testBit j)) := by
  show (wIn (wOut f n k) k n i).testBit j = _
  rw [wIn_bit _ _ _ _ (by omega), if_pos hi]
theorem wOut_sound (f : Nat → Nat) (n : Nat) : ∀ k, k ≤ n → ∀ i j, i < n → (wOut f n k i).testBit j = true → Rch (bitR f) i j
  | 0, _, i, j, _, h => .one h
  | k + 1, hk, i, j, hi, h => by
    rw [wOut_bit f n k i j hi] at h
    simp only [Bool.or_eq_true, Bool.and_eq_true] at h
    rcases h with h | ⟨h1, h2⟩
    · exact wOut_sound f n k (by omega) i j hi h
    · exact (wOut_sound f n k (by omega) i k hi h1).trans (wOut_sound f n k (by omega) k j (by omega) h2)
theorem wOut_mono (f : Nat → Nat) (n : Nat) : ∀ k, k ≤ n → ∀ i j, i < n → (f i).testBit j = true → (wOut f n k i).testBit j = true
  | 0, _, i, j, _, h => h
  | k + 1, hk, i, j, hi, h => by
    rw [wOut_bit f n k i j hi, wOut_mono f n k (by omega) i j hi h]; rfl
theorem wOut_trans (f : Nat → Nat) (n : Nat) : ∀ k, k ≤ n → ∀ p, p < k → ∀ i j, i < n → (wOut f n k i).testBit p = true → (wOut f n k p).testBit j = true → (wOut f n k i).testBit j = true
  | 0, _, p, hp, _, _, _, _, _ => by omega
  | k + 1, hk, p, hp, i, j, hi, h1, h2 => by
    have T := wOut_trans f n k (by omega)
    rw [wOut_bit f n k i p hi] at h1
    rw [wOut_bit f n k p j (by omega)] at h2
    rw [wOut_bit f n k i j hi]
    simp only [Bool.or_eq_true, Bool.and_eq_true] at h1 h2 ⊢
    by_cases hpk : p < k
    · rcases h1 with h1 | ⟨h1, h1'⟩ <;> rcases h2 with h2 | ⟨h2, h2'⟩
      · exact .inl (T p hpk i j hi h1 h2)
      · exact .inr ⟨T p hpk i k hi h1 h2, h2'⟩
      · exact .inr ⟨h1, T p hpk k j (by omega) h1' h2⟩
      · exact .inr ⟨h1, h2'⟩
    · obtain rfl : p = k := by omega
      have a1 : (wOut f n p i).testBit p = true := by rcases h1 with h | h; exact h; exact h.1
      have a2 : (wOut f n p p).testBit j = true := by rcases h2 with h | h; exact h; exact h.2
      exact .inr ⟨a1, a2⟩
/-- the closure: what can be reached -/
theorem closedF_rch {n : Nat} {f : Nat → Nat} (hf : ∀ i, i < n → f i < 2 ^ n) {i j : Nat} (hi : i < n) : (closedF n f i).testBit j = true ↔ Rch (bitR f) i j := by
  refine ⟨wOut_sound f n n (Nat.le_refl _) i j hi, fun h => ?_⟩
  induction h with
  | one h => exact wOut_mono f n n (Nat.le_refl _) _ _ hi h
  | @step i k j h _ ih =>
    have hk : k < n := by
      rcases Nat.lt_or_ge k n with h' | h'
      · exact h'
      · have : (f i).testBit k = false := Nat.testBit_lt_two_pow (Nat.lt_of_lt_of_le (hf i hi) (Nat.pow_le_pow_right (by decide) h'))
        rw [bitR, this] at h; cases h
    exact wOut_trans f n n (Nat.le_refl _) k hk i j hi (wOut_mono f n n (Nat.le_refl _) _ _ hi h) (ih hk)
end Go.Proofs.Ytbhjljnbjomnhaa

namespace Go.Proofs.Ytbhjljnbjomnhaa
open Go.RowKit

theorem countP_lt {α : Type} {p q : α → Bool} : ∀ {l : List α}, (∀ x ∈ l, p x = true → q x = true) → (∃ x ∈ l, q x = true ∧ p x = false) → l.countP p < l.countP q
  | [], _, h => by obtain ⟨x, hx, _⟩ := h; simp at hx
  | y :: l, h1, h2 => by
    have hle : l.countP p ≤ l.countP q := List.countP_mono_left (fun x hx => h1 x (by simp [hx]))
    simp only [List.countP_cons]
    by_cases hl : ∃ x ∈ l, q x = true ∧ p x = false
    · have ih := countP_lt (fun x hx => h1 x (by simp [hx])) hl
      have := h1 y (by simp)
      cases hp : p y
      · cases hq : q y <;> simp <;> omega
      · rw [hp] at this; rw [this rfl]; simp; omega
    · obtain ⟨x, hx, hq, hp⟩ := h2
      rcases List.mem_cons.1 hx with rfl | hx
      · rw [hq, hp]; simp; omega
      · exact absurd ⟨x, hx, hq, hp⟩ hl
section
variable {n : Nat} {f : Nat → Nat}
/-- what the plain laws stand on -/
structure Fine (n : Nat) (f : Nat → Nat) : Prop where
  n12 : n ≤ 12
  lt : ∀ i, i < n → f i < 2 ^ n
  acyc : isCyc n (closedF n f) = false
theorem Fine.irr (h : Fine n f) {i : Nat} (hi : i < n) : (closedF n f i).testBit i = false := by
  have := h.acyc
  rw [isCyc, List.any_eq_false] at this
  simpa using this i (by simpa using hi)
theorem Fine.dir (h : Fine n f) {i j : Nat} (hi : i < n) (hb : (f i).testBit j = true) : (closedF n f i).testBit j = true :=
  (closedF_rch h.lt hi).2 (.one hb)
theorem Fine.trans (h : Fine n f) {i j k : Nat} (hi : i < n) (hj : j < n) (h1 : (closedF n f i).testBit j = true) (h2 : (closedF n f j).testBit k = true) : (closedF n f i).testBit k = true :=
  (closedF_rch h.lt hi).2 (((closedF_rch h.lt hi).1 h1).trans ((closedF_rch h.lt hj).1 h2))
theorem mayC_iff (c : Nat → Nat) (out : List Nat) (i : Nat) : mayC n c out i = true ↔ i ∉ out ∧ ∀ j, j < n → (c j).testBit i = true → j ∈ out := by
  simp only [mayC, Bool.and_eq_true, Bool.not_eq_true', List.all_eq_true, List.mem_range, Bool.or_eq_true]
  constructor
  · rintro ⟨h1, h2⟩
    refine ⟨by simpa using h1, fun j hj hb => ?_⟩
    rcases h2 j hj with h | h
    · rw [hb] at h; cases h
    · simpa using h
  · rintro ⟨h1, h2⟩
    refine ⟨by simpa using h1, fun j hj => ?_⟩
    cases hb : (c j).testBit i
    · exact .inl rfl
    · exact .inr (by simpa using h2 j hj hb)
theorem Fine.ripeC (h : Fine n f) : Ripe n (closedF n f) := by
  intro out hnd hlt hlen
  have hex : ∃ i, i < n ∧ i ∉ out := by
    refine Decidable.byContradiction fun hno => ?_
    have hsub : List.range n ⊆ out := fun i hi => by
      refine Decidable.byContradiction fun hni => hno ⟨i, by simpa using hi, hni⟩
    have := (List.nodup_range (n := n)).length_le_of_subset hsub
    simp at this; omega
  have key : ∀ k i, i < n → i ∉ out → (List.range n).countP (fun j => (closedF n f j).testBit i) = k → ∃ i, i < n ∧ mayC n (closedF n f) out i = true := by
    intro k
    induction k using Nat.strongRecOn with
    | _ k ih =>
      intro i hi hio hk
      by_cases hall : ∀ j, j < n → (closedF n f j).testBit i = true → j ∈ out
      · exact ⟨i, hi, (mayC_iff _ _ _).2 ⟨hio, hall⟩⟩
      · have : ∃ j, j < n ∧ (closedF n f j).testBit i = true ∧ j ∉ out := by
          refine Decidable.byContradiction fun hno => hall fun j hj hb => ?_
          exact Decidable.byContradiction fun hjo => hno ⟨j, hj, hb, hjo⟩
        obtain ⟨j, hj, hb, hjo⟩ := this
        refine ih _ ?_ j hj hjo rfl
        rw [← hk]
        refine countP_lt (fun x hx hp => ?_) ⟨j, by simpa using hj, hb, h.irr hj⟩
        exact h.trans (by simpa using hx) hj hp hb
  obtain ⟨i, hi, hio⟩ := hex
  exact key _ i hi hio rfl
theorem Fine.ripe (h : Fine n f) : Ripe n f := by
  intro out hnd hlt hlen
  obtain ⟨i, hi, hm⟩ := h.ripeC out hnd hlt hlen
  rw [mayC_iff] at hm
  exact ⟨i, hi, (mayC_iff _ _ _).2 ⟨hm.1, fun j hj hb => hm.2 j hj (h.dir hj hb)⟩⟩
/-- who is ahead of one in the list is in it -/
def Down (n : Nat) (f : Nat → Nat) (out : List Nat) : Prop := ∀ i ∈ out, ∀ j, j < n → (f j).testBit i = true → j ∈ out
theorem Fine.bitlt (h : Fine n f) {i j : Nat} (hi : i < n) (hb : (f i).testBit j = true) : j < n := by
  rcases Nat.lt_or_ge j n with h' | h'
  · exact h'
  · rw [Nat.testBit_lt_two_pow (Nat.lt_of_lt_of_le (h.lt i hi) (Nat.pow_le_pow_right (by decide) h'))] at hb; cases hb
theorem Fine.mayEq (h : Fine n f) {out : List Nat} (hd : Down n f out) (i : Nat) : mayC n f out i = mayC n (closedF n f) out i := by
  rw [Bool.eq_iff_iff, mayC_iff, mayC_iff]
  refine ⟨fun ⟨h1, h2⟩ => ⟨h1, fun j hj hb => ?_⟩, fun ⟨h1, h2⟩ => ⟨h1, fun j hj hb => h2 j hj (h.dir hj hb)⟩⟩
  have hr := (closedF_rch h.lt hj).1 hb
  clear hb
  induction hr with
  | one hb => exact h2 _ hj hb
  | step hb _ ih => exact hd _ (ih ⟨h1, h2⟩ h1 h2 (h.bitlt hj hb)) _ hj hb
theorem Down.snoc {out : List Nat} {i : Nat} (hd : Down n f out) (hm : mayC n f out i = true) : Down n f (out ++ [i]) := by
  intro k hk j hj hb
  rcases List.mem_append.1 hk with hk | hk
  · exact List.mem_append.2 (.inl (hd k hk j hj hb))
  · simp only [List.mem_singleton] at hk
    subst hk
    exact List.mem_append.2 (.inl (((mayC_iff _ _ _).1 hm).2 j hj hb))
theorem Fine.growEq (h : Fine n f) : ∀ m out, Down n f out → grow n f m out = grow n (closedF n f) m out
  | 0, _, _ => rfl
  | m + 1, out, hd => by
    have e : mayC n f out = mayC n (closedF n f) out := funext (h.mayEq hd)
    simp only [grow]
    rw [← e]
    split
    · rename_i i hi
      exact h.growEq m _ (hd.snoc (by
        have := List.find?_some hi
        simpa using this))
    · rfl
theorem Down.nil : Down n f [] := fun i hi => by simp at hi
theorem Fine.leastEq (h : Fine n f) : leastL n f = leastL n (closedF n f) := h.growEq n [] Down.nil
end
end Go.Proofs.Ytbhjljnbjomnhaa

namespace Go.Proofs.Ytbhjljnbjomnhaa
open Go.RowKit

/-! plain -/
def chosenR (n : Nat) (f : Nat → Nat) : Option (List Nat) := if (grow n f n []).length = n then some (grow n f n []) else none
def Lin (n : Nat) (f : Nat → Nat) (out : List Nat) : Prop := ∀ p (h : p < out.length), ∀ j, j < n → (f j).testBit out[p] = true → ∃ q, q < p ∧ ∃ hq : q < out.length, out[q] = j
theorem Lin.snoc {n : Nat} {f : Nat → Nat} {out : List Nat} {i : Nat} (hl : Lin n f out) (hm : mayC n f out i = true) : Lin n f (out ++ [i]) := by
  intro p hp j hj hb
  simp only [List.length_append, List.length_singleton] at hp
  by_cases e : p < out.length
  · rw [List.getElem_append_left e] at hb
    obtain ⟨q, h1, h2, h3⟩ := hl p e j hj hb
    exact ⟨q, h1, by simp; omega, by rw [List.getElem_append_left h2]; exact h3⟩
  · obtain rfl : p = out.length := by omega
    simp only [List.getElem_concat_length] at hb
    have := ((mayC_iff _ _ _).1 hm).2 j hj hb
    obtain ⟨q, hq, e⟩ := List.getElem_of_mem this
    exact ⟨q, hq, by simp; omega, by rw [List.getElem_append_left hq]; exact e⟩
theorem grow_inv {n : Nat} {f : Nat → Nat} : ∀ m out, out.Nodup → (∀ i ∈ out, i < n) → Lin n f out → (grow n f m out).Nodup ∧ (∀ i ∈ grow n f m out, i < n) ∧ Lin n f (grow n f m out)
  | 0, out, h1, h2, h3 => ⟨h1, h2, h3⟩
  | m + 1, out, h1, h2, h3 => by
    rw [grow]
    split
    · rename_i i hi
      have hm : mayC n f out i = true := by have := List.find?_some hi; simpa using this
      have hin : i < n := by have := List.mem_of_find?_eq_some hi; simpa using this
      refine grow_inv m _ (snoc_nodup h1 (may_new hm)) (fun k hk => ?_) (h3.snoc hm)
      rcases List.mem_append.1 hk with h | h
      · exact h2 k h
      · simp only [List.mem_singleton] at h; omega
    · exact ⟨h1, h2, h3⟩
theorem grow_len {n : Nat} {f : Nat → Nat} (hr : Ripe n f) : ∀ m out, out.Nodup → (∀ i ∈ out, i < n) → out.length + m = n → (grow n f m out).length = n
  | 0, out, _, _, h => by rw [grow]; omega
  | m + 1, out, h1, h2, h => by
    rw [grow]
    obtain ⟨i, hi, hm⟩ := hr out h1 h2 (by omega)
    cases hf : (List.range n).find? (mayC n f out) with
    | none =>
      rw [List.find?_eq_none] at hf
      exact absurd hm (by simpa using hf i (by simpa using hi))
    | some k =>
      have hm' : mayC n f out k = true := by have := List.find?_some hf; simpa using this
      have hin : k < n := by have := List.mem_of_find?_eq_some hf; simpa using this
      refine grow_len hr m _ (snoc_nodup h1 (may_new hm')) (fun q hq => ?_) (by simp; omega)
      rcases List.mem_append.1 hq with h | h
      · exact h2 q h
      · simp only [List.mem_singleton] at h; omega
theorem grow_cyc {n : Nat} {f : Nat → Nat} (hf : ∀ i, i < n → f i < 2 ^ n) (hc : isCyc n (closedF n f) = true) : (grow n f n []).length ≠ n := by
  intro hlen
  obtain ⟨h1, h2, h3⟩ := grow_inv (n := n) (f := f) n [] (by simp) (by simp) (fun p hp => by simp at hp)
  generalize grow n f n [] = out at *
  have hall : ∀ i, i < n → i ∈ out := fun i hi => by
    refine Decidable.byContradiction fun hno => ?_
    have := nodup_len (n := n) (out := out ++ [i]) (snoc_nodup h1 hno) (fun k hk => by
      rcases List.mem_append.1 hk with h | h
      · exact h2 k h
      · simp only [List.mem_singleton] at h; omega)
    simp at this; omega
  have hpos : ∀ {a b : Nat}, Rch (bitR f) a b → a < n → b < n → ∀ p q (hp : p < out.length) (hq : q < out.length), out[p] = a → out[q] = b → p < q := by
    have hu : ∀ p q (hp : p < out.length) (hq : q < out.length), out[p] = out[q] → p = q := fun p q hp hq e => by
      have hpw := List.pairwise_iff_getElem.1 h1
      rcases Nat.lt_trichotomy p q with h | h | h
      · exact absurd e (hpw p q hp hq h)
      · exact h
      · exact absurd e.symm (hpw q p hq hp h)
    intro a b hr
    induction hr with
    | one hb =>
      intro ha hbn p q hp hq ep eq
      subst ep eq
      obtain ⟨r, r1, r2, r3⟩ := h3 q hq _ ha hb
      have := hu r p r2 hp r3
      omega
    | @step i k j hb _ ih =>
      intro ha hbn p q hp hq ep eq
      have hk : k < n := by
        rcases Nat.lt_or_ge k n with h' | h'
        · exact h'
        · have hb' : (f i).testBit k = true := hb
          rw [Nat.testBit_lt_two_pow (Nat.lt_of_lt_of_le (hf i ha) (Nat.pow_le_pow_right (by decide) h'))] at hb'; cases hb'
      obtain ⟨r, hr, er⟩ := List.getElem_of_mem (hall k hk)
      have h5 := ih hk hbn r q hr hq er eq
      subst ep
      have hb' : (f out[p]).testBit out[r] = true := by rw [er]; exact hb
      obtain ⟨s, s1, s2, s3⟩ := h3 r hr _ ha hb'
      have := hu s p s2 hp s3
      omega
  rw [isCyc, List.any_eq_true] at hc
  obtain ⟨i, hi, hb⟩ := hc
  have hi' : i < n := by simpa using hi
  have hr := (closedF_rch hf hi').1 hb
  obtain ⟨p, hp, e⟩ := List.getElem_of_mem (hall i hi')
  have := hpos hr hi' hi' p p hp hp e e
  omega
theorem chosen_cyc {n : Nat} {f : Nat → Nat} (hf : ∀ i, i < n → f i < 2 ^ n) (hc : isCyc n (closedF n f) = true) : chosenR n f = none := by
  unfold chosenR; rw [if_neg (grow_cyc hf hc)]
theorem chosen_ok {n : Nat} {f : Nat → Nat} (h : Fine n f) : chosenR n f = some (leastL n (closedF n f)) := by
  have hl := grow_len h.ripe n [] (by simp) (by simp) (by simp)
  unfold chosenR
  rw [if_pos hl, ← h.leastEq]; rfl
/-! the walk -/
theorem grow_stuck {n : Nat} {f : Nat → Nat} {m : Nat} {out : List Nat} (h : ∀ k, k < n → mayC n f out k = false) : grow n f m out = out := by
  cases m with
  | zero => rfl
  | succ m =>
    rw [grow]
    cases hf : (List.range n).find? (mayC n f out) with
    | none => rfl
    | some k =>
      have hm := List.find?_some hf
      have hk := List.mem_of_find?_eq_some hf
      rw [h k (by simpa using hk)] at hm; cases hm
section
variable (n : Nat) (f : Nat → Nat) (w : World) (hn : n ≤ 12)
include hn
set_option maxRecDepth 100000 in
set_option maxHeartbeats 4000000 in
theorem chosen_any : Calls Try.prog 15 #[.agg (relCells n f)] w fun e w' =>
    (chosenR n f = none → e = .returned (.slice none 0 0) ∧ Below w.heap.size w w') ∧
    (∀ L, chosenR n f = some L → ∃ A c, e = .returned (.slice (some ⟨A, 0, none⟩) L.length c) ∧ Own natEnc 1 3 w' w.heap.size (.slice (some ⟨A, 0, none⟩) L.length c) L ∧ Below w.heap.size w w') := by
  refine calls_T (S := []) [] Try.func15 rfl Try.ntmps15 (by simp) (Mem.nil _) ?_
  repeat' (first | (refine GO ?_) | (refine GOE ?_; (first | (rintro _ _ ⟨rfl, rfl⟩) | (rintro _ _ ⟨g, rfl, rfl⟩) | (rintro _ _ ⟨A', c', rfl, rfl⟩))) | ((refine GO2 ?_ ?_) <;> intro h <;> (try (repeat (first | with_reducible (replace h := of_decide_eq_true h) | with_reducible (replace h := of_decide_eq_false h) | with_reducible (replace h := bnt h) | with_reducible (replace h := bnf h) | with_reducible (replace h := Int.not_lt.mp h) | with_reducible (replace h := Int.not_le.mp h) | with_reducible (replace h := band_dec h) | with_reducible (replace h := band_decF h) | with_reducible (replace h := bor_dec h) | with_reducible (replace h := bor_decF h)))) <;> (try (exfalso; first | contradiction | omega))) | ((with_reducible (first | apply TD_e2z | apply TD_e3z | apply TL_e | apply TD_e2 | apply TD_e3)); ((with_reducible apply ES_buildSlice0 natEnc); exact rfl); (first | exact rfl | exact ⟨rfl, rfl, rfl⟩); (rintro _ _ ⟨g, rfl, rfl⟩); (try refine ⟨SUB, ?_⟩)) | fail)
  rename_i gr
  refine T_loop (X := List Nat × Nat × Nat) (fun x => [(3, .slice (some ⟨x.2.1, 0, none⟩) x.1.length x.2.2), (1, .pointer (some ⟨gr, 0, none⟩))])
    (fun x => [entOwn natEnc 1 3 (some ⟨x.2.1, 0, none⟩) x.2.2 x.1, entBlk gr 36 (relCells n f)])
    (fun x => x.1.Nodup ∧ (∀ i ∈ x.1, i < n) ∧ grow n f (n - x.1.length) x.1 = grow n f n []) (fun x => n - x.1.length) ([], g, 0)
    ⟨by simp, by simp, rfl⟩ (by (repeat (first | exact SubE.nil _ | refine SubE.cons rfl ?_))) (fun w hw => hw.sel (by (repeat (first | exact Sel.nil _ | (apply Sel.cons; (repeat (first | with_reducible exact Pick.here _ _ | with_reducible apply Pick.there))))))) ?_
  rintro ⟨out, A, c⟩ ⟨h1, h2, h3⟩
  dsimp only at h1 h2 h3 ⊢
  have hl := nodup_len h1 h2
  by_cases hlt : out.length < n
  · repeat' (first | (refine GO ?_) | (refine GOE ?_; (first | (rintro _ _ ⟨rfl, rfl⟩) | (rintro _ _ ⟨g, rfl, rfl⟩) | (rintro _ _ ⟨A', c', rfl, rfl⟩))) | ((refine GO2 ?_ ?_) <;> intro h <;> (try (repeat (first | with_reducible (replace h := of_decide_eq_true h) | with_reducible (replace h := of_decide_eq_false h) | with_reducible (replace h := bnt h) | with_reducible (replace h := bnf h) | with_reducible (replace h := Int.not_lt.mp h) | with_reducible (replace h := Int.not_le.mp h) | with_reducible (replace h := band_dec h) | with_reducible (replace h := band_decF h) | with_reducible (replace h := bor_dec h) | with_reducible (replace h := bor_decF h)))) <;> (try (exfalso; first | contradiction | omega))) | fail)
    refine T_loop (X := Nat × List Nat × Nat × Nat) (fun x => [(5, .int .i64 (x.1 : Nat)), (4, .int .i64 out.length), (3, .slice (some ⟨x.2.2.1, 0, none⟩) x.2.1.length x.2.2.2), (1, .pointer (some ⟨gr, 0, none⟩))])
      (fun x => [entOwn natEnc 1 3 (some ⟨x.2.2.1, 0, none⟩) x.2.2.2 x.2.1, entBlk gr 36 (relCells n f)])
      (fun x => x.1 ≤ n ∧ ((x.2.1 = out ∧ ∀ k, k < x.1 → mayC n f out k = false) ∨ ∃ i, i < n ∧ x.1 = i + 1 ∧ x.2.1 = out ++ [i] ∧ mayC n f out i = true ∧ ∀ k, k < i → mayC n f out k = false)) (fun x => n - x.1) (0, out, A, c)
      ⟨by simp, .inl ⟨rfl, by simp⟩⟩ (by (repeat (first | exact SubE.nil _ | refine SubE.cons rfl ?_))) (by exact SUBS) ?_
    rintro ⟨i, L, A2, c2⟩ ⟨hi, hph⟩
    dsimp only at hi hph ⊢
    rcases hph with ⟨rfl, hno⟩ | ⟨i0, hi0, rfl, rfl, hmay, hno⟩
    · by_cases hin : i < n
      · repeat' (first | (refine GO ?_) | (refine GOE ?_; (first | (rintro _ _ ⟨rfl, rfl⟩) | (rintro _ _ ⟨g, rfl, rfl⟩) | (rintro _ _ ⟨A', c', rfl, rfl⟩))) | ((refine GO2 ?_ ?_) <;> intro h <;> (try (repeat (first | with_reducible (replace h := of_decide_eq_true h) | with_reducible (replace h := of_decide_eq_false h) | with_reducible (replace h := bnt h) | with_reducible (replace h := bnf h) | with_reducible (replace h := Int.not_lt.mp h) | with_reducible (replace h := Int.not_le.mp h) | with_reducible (replace h := band_dec h) | with_reducible (replace h := band_decF h) | with_reducible (replace h := bor_dec h) | with_reducible (replace h := bor_decF h)))) <;> (try (exfalso; first | contradiction | omega))) | ((with_reducible (first | apply TD_e2z | apply TD_e3z | apply TL_e | apply TD_e2 | apply TD_e3)); ((with_reducible apply ES_callV (f := 56)); exact rfl; (intro w hw; exact containsN_any _ c2 L i w (by omega) (hw.ownRd (by first | ((repeat (first | with_reducible exact List.mem_cons_self | with_reducible apply List.mem_cons_of_mem)); done) | (repeat (first | exact List.Mem.head _ | apply List.Mem.tail))) (fun _ => rfl))); exact rfl); (first | exact rfl | exact ⟨rfl, rfl, rfl⟩); (rintro _ _ ⟨rfl, rfl⟩); (try refine ⟨SUB, ?_⟩)) | fail)
        refine T_loop (X := Nat × Bool)
          (fun x => [(34, .int .i64 (x.1 : Nat)), (33, .int .i64 n), (6, .bool x.2), (5, .int .i64 (i : Nat)), (4, .int .i64 L.length), (3, .slice (some ⟨A2, 0, none⟩) L.length c2), (1, .pointer (some ⟨gr, 0, none⟩))])
          (fun _ => [entOwn natEnc 1 3 (some ⟨A2, 0, none⟩) c2 L, entBlk gr 36 (relCells n f)])
          (fun x => x.1 ≤ n ∧ x.2 = mayTo f L i x.1) (fun x => n - x.1) (0, !L.contains i)
          ⟨by omega, by simp [mayTo]⟩ (by (repeat (first | exact SubE.nil _ | refine SubE.cons rfl ?_))) (by exact SUBS) ?_
        rintro ⟨j, may⟩ ⟨hj, hm⟩
        dsimp only at hj hm ⊢
        by_cases hjn : j < n
        · have hs := mayTo_succ f L i j
          rw [← hm] at hs
          repeat' (first | (refine GO ?_) | (refine GOE ?_; (first | (rintro _ _ ⟨rfl, rfl⟩) | (rintro _ _ ⟨g, rfl, rfl⟩) | (rintro _ _ ⟨A', c', rfl, rfl⟩))) | ((refine GO2 ?_ ?_) <;> intro h <;> (try (repeat (first | with_reducible (replace h := of_decide_eq_true h) | with_reducible (replace h := of_decide_eq_false h) | with_reducible (replace h := bnt h) | with_reducible (replace h := bnf h) | with_reducible (replace h := Int.not_lt.mp h) | with_reducible (replace h := Int.not_le.mp h) | with_reducible (replace h := band_dec h) | with_reducible (replace h := band_decF h) | with_reducible (replace h := bor_dec h) | with_reducible (replace h := bor_decF h)))) <;> (try (exfalso; first | contradiction | omega))) | ((with_reducible (first | apply TD_e2z | apply TD_e3z | apply TL_e | apply TD_e2 | apply TD_e3)); ((with_reducible apply ES_callV (f := 57)); exact rfl; (intro w hw; exact ahead_any n f j i w (by omega) (by omega)); exact rfl); (first | exact rfl | exact ⟨rfl, rfl, rfl⟩); (rintro _ _ ⟨rfl, rfl⟩); (try refine ⟨SUB, ?_⟩)) | ((with_reducible (first | apply TD_e2z | apply TD_e3z | apply TL_e | apply TD_e2 | apply TD_e3)); ((with_reducible apply ES_callV (f := 56)); exact rfl; (intro w hw; exact containsN_any _ c2 L j w (by omega) (hw.ownRd (by first | ((repeat (first | with_reducible exact List.mem_cons_self | with_reducible apply List.mem_cons_of_mem)); done) | (repeat (first | exact List.Mem.head _ | apply List.Mem.tail))) (fun _ => rfl))); exact rfl); (first | exact rfl | exact ⟨rfl, rfl, rfl⟩); (rintro _ _ ⟨rfl, rfl⟩); (try refine ⟨SUB, ?_⟩)) | fail)
          · (refine At_rounds ((j + 1, true)) ?_ ?_ ?_ ?_; (exact ⟨by omega, by dsimp only; rw [hs, show may = true by assumption, show (f j).testBit i = false by assumption]; rfl⟩); ((dsimp only; omega)); ((repeat (first | exact SubE.nil _ | refine SubE.cons rfl ?_))); (exact SUBS))
          · (refine At_rounds ((j + 1, L.contains j)) ?_ ?_ ?_ ?_; (exact ⟨by omega, by dsimp only; rw [hs, show may = true by assumption, show (f j).testBit i = true by assumption]; rfl⟩); ((dsimp only; omega)); ((repeat (first | exact SubE.nil _ | refine SubE.cons rfl ?_))); (exact SUBS))
          · (refine At_rounds ((j + 1, false)) ?_ ?_ ?_ ?_; (exact ⟨by omega, by dsimp only; rw [hs, show may = false by assumption]; rfl⟩); ((dsimp only; omega)); ((repeat (first | exact SubE.nil _ | refine SubE.cons rfl ?_))); (exact SUBS))
        · obtain rfl : j = n := by omega
          repeat' (first | (refine GO ?_) | (refine GOE ?_; (first | (rintro _ _ ⟨rfl, rfl⟩) | (rintro _ _ ⟨g, rfl, rfl⟩) | (rintro _ _ ⟨A', c', rfl, rfl⟩))) | ((refine GO2 ?_ ?_) <;> intro h <;> (try (repeat (first | with_reducible (replace h := of_decide_eq_true h) | with_reducible (replace h := of_decide_eq_false h) | with_reducible (replace h := bnt h) | with_reducible (replace h := bnf h) | with_reducible (replace h := Int.not_lt.mp h) | with_reducible (replace h := Int.not_le.mp h) | with_reducible (replace h := band_dec h) | with_reducible (replace h := band_decF h) | with_reducible (replace h := bor_dec h) | with_reducible (replace h := bor_decF h)))) <;> (try (exfalso; first | contradiction | omega))) | ((with_reducible (first | apply TD_e2z | apply TD_e3z | apply TL_e | apply TD_e2 | apply TD_e3)); ((with_reducible apply ES_append1 (enc := natEnc) (xx := i)); exact rfl; exact rfl; (repeat (first | with_reducible exact List.mem_cons_self | with_reducible apply List.mem_cons_of_mem)); exact rfl; exact fun _ => rfl; exact fun _ => rfl; (intro A' c'; first | ((repeat (first | with_reducible exact Upd.here _ _ _ | with_reducible apply Upd.there)); done) | (repeat (first | exact Upd.here _ _ _ | apply Upd.there))); (omega); decide; exact rfl); (first | exact rfl | exact ⟨rfl, rfl, rfl⟩); (rintro _ _ ⟨A', c', rfl, rfl⟩); (try refine ⟨SUB, ?_⟩)) | fail)
          · have hmay : mayC j f L i = true := by
              have : may = true := by assumption
              rw [this] at hm; exact hm.symm
            refine At.openOwn (ls := L ++ [i]) (by first | ((repeat (first | with_reducible exact List.mem_cons_self | with_reducible apply List.mem_cons_of_mem)); done) | (repeat (first | exact List.Mem.head _ | apply List.Mem.tail))) (by simp) ?_
            rintro gA rfl
            refine At_rounds (i + 1, L ++ [i], gA, c') ⟨by dsimp only; omega, .inr ⟨i, hin, rfl, rfl, hmay, hno⟩⟩ (by dsimp only; omega) (by (repeat (first | exact SubE.nil _ | refine SubE.cons rfl ?_))) (by exact SUBS)
          · have hmay : mayC j f L i = false := by
              have : may = false := by assumption
              rw [this] at hm; exact hm.symm
            refine At_rounds (i + 1, L, A2, c2) ⟨by dsimp only; omega, .inl ⟨rfl, below_succ hno hmay⟩⟩ (by dsimp only; omega) (by (repeat (first | exact SubE.nil _ | refine SubE.cons rfl ?_))) (by exact SUBS)
      · obtain rfl : i = n := by omega
        repeat' (first | (refine GO ?_) | (refine GOE ?_; (first | (rintro _ _ ⟨rfl, rfl⟩) | (rintro _ _ ⟨g, rfl, rfl⟩) | (rintro _ _ ⟨A', c', rfl, rfl⟩))) | ((refine GO2 ?_ ?_) <;> intro h <;> (try (repeat (first | with_reducible (replace h := of_decide_eq_true h) | with_reducible (replace h := of_decide_eq_false h) | with_reducible (replace h := bnt h) | with_reducible (replace h := bnf h) | with_reducible (replace h := Int.not_lt.mp h) | with_reducible (replace h := Int.not_le.mp h) | with_reducible (replace h := band_dec h) | with_reducible (replace h := band_decF h) | with_reducible (replace h := bor_dec h) | with_reducible (replace h := bor_decF h)))) <;> (try (exfalso; first | contradiction | omega))) | fail)
        (refine At_ret Try.results15 rfl (fun w' hw => ?_))
        rw [grow_stuck hno] at h3
        have hnone : chosenR i f = none := by unfold chosenR; rw [← h3, if_neg (by omega)]
        exact ⟨fun _ => ⟨rfl, hw.below0 rfl⟩, fun L' hL' => by rw [hnone] at hL'; cases hL'⟩
    · have hlen : (out ++ [i0]).length = out.length + 1 := by simp
      repeat' (first | (refine GO ?_) | (refine GOE ?_; (first | (rintro _ _ ⟨rfl, rfl⟩) | (rintro _ _ ⟨g, rfl, rfl⟩) | (rintro _ _ ⟨A', c', rfl, rfl⟩))) | ((refine GO2 ?_ ?_) <;> intro h <;> (try (repeat (first | with_reducible (replace h := of_decide_eq_true h) | with_reducible (replace h := of_decide_eq_false h) | with_reducible (replace h := bnt h) | with_reducible (replace h := bnf h) | with_reducible (replace h := Int.not_lt.mp h) | with_reducible (replace h := Int.not_le.mp h) | with_reducible (replace h := band_dec h) | with_reducible (replace h := band_decF h) | with_reducible (replace h := bor_dec h) | with_reducible (replace h := bor_decF h)))) <;> (try (exfalso; first | contradiction | omega))) | fail)
      all_goals
        refine At_rounds (out ++ [i0], A2, c2) ⟨snoc_nodup h1 (may_new hmay), ?_, ?_⟩ (by dsimp only; omega) (by (repeat (first | exact SubE.nil _ | refine SubE.cons rfl ?_))) (by exact SUBS)
        · intro k hk
          rcases List.mem_append.1 hk with h | h
          · exact h2 k h
          · simp only [List.mem_singleton] at h; omega
        · dsimp only
          rw [← h3, show n - out.length = (n - (out ++ [i0]).length) + 1 by omega, grow, find_at hi0 hno hmay]
  · have he : out.length = n := by omega
    repeat' (first | (refine GO ?_) | (refine GOE ?_; (first | (rintro _ _ ⟨rfl, rfl⟩) | (rintro _ _ ⟨g, rfl, rfl⟩) | (rintro _ _ ⟨A', c', rfl, rfl⟩))) | ((refine GO2 ?_ ?_) <;> intro h <;> (try (repeat (first | with_reducible (replace h := of_decide_eq_true h) | with_reducible (replace h := of_decide_eq_false h) | with_reducible (replace h := bnt h) | with_reducible (replace h := bnf h) | with_reducible (replace h := Int.not_lt.mp h) | with_reducible (replace h := Int.not_le.mp h) | with_reducible (replace h := band_dec h) | with_reducible (replace h := band_decF h) | with_reducible (replace h := bor_dec h) | with_reducible (replace h := bor_decF h)))) <;> (try (exfalso; first | contradiction | omega))) | fail)
    (refine At_ret Try.results15 rfl (fun w' hw => ?_))
    rw [show n - out.length = 0 by omega, grow] at h3
    have hsome : chosenR n f = some out := by unfold chosenR; rw [← h3, if_pos he]
    refine ⟨fun hN => absurd (hsome.symm.trans hN) (by simp), fun L' hL' => ?_⟩
    rw [hsome] at hL'
    cases hL'
    exact ⟨A, c, rfl, hw.ownOut rfl (by first | ((repeat (first | with_reducible exact List.mem_cons_self | with_reducible apply List.mem_cons_of_mem)); done) | (repeat (first | exact List.Mem.head _ | apply List.Mem.tail))), hw.below0 rfl⟩
end
end Go.Proofs.Ytbhjljnbjomnhaa

namespace Go.Proofs.Ytbhjljnbjomnhaa
open Go.RowKit

abbrev JSt := List (Int × Stp) × (Nat → Nat)
def putB (f : Nat → Nat) (a b : Nat) : Nat → Nat := upd f a (f a ||| 2 ^ b)
def bitsJ (row : List Stp) (b : Nat) (f : Nat → Nat) : Nat → Nat → Nat
  | 0 => f
  | m + 1 => putB (bitsJ row b f m) ((row.getD m default).call.toNat) b
def badJ (cs : List Cl) (t : Int) (H : List (Int × Stp)) (s : Stp) : Bool :=
  decide (s.call < 0) || decide ((cs.length : Int) ≤ s.call) || !decide ((cs.getD s.call.toNat default).thing = t) || (lookM H s.call).isSome
def addJ (cs : List Cl) (t : Int) (row : List Stp) (i : Nat) (st : JSt) : Option JSt :=
  if badJ cs t st.1 (row.getD i default) = true then none else some (putM st.1 (row.getD i default).call (row.getD i default), bitsJ row (row.getD i default).call.toNat st.2 i)
def rowJ (cs : List Cl) (t : Int) (row : List Stp) (st : JSt) : Nat → Option JSt
  | 0 => some st
  | i + 1 => (rowJ cs t row st i).bind (addJ cs t row i)
def rowsJ (cs : List Cl) (W : List (List Stp)) : Nat → Option JSt
  | 0 => some ([], relAhead cs)
  | k + 1 => (rowsJ cs W k).bind fun st => rowJ cs (k : Int) (W.getD k []) st (W.getD k []).length
def outJ (H : List (Int × Stp)) (L : List Nat) (k : Nat) : List Stp := (L.take k).filterMap fun x => lookM H ((x : Nat) : Int)
def joinS (ts : List Int) (l : List Ev) (W : List (List Stp)) : List Stp × Bool × Int :=
  if (localS ts l).2 ≠ 0 then ([], false, (localS ts l).2) else if W.length ≠ ts.length then ([], false, 3) else
    match rowsJ (localS ts l).1 W W.length with
    | none => ([], false, 3)
    | some st => match chosenR (localS ts l).1.length st.2 with
      | none => ([], false, 0)
      | some L => (outJ st.1 L L.length, true, 0)
theorem putB_rel {R : Nat → Nat → Bool} {n a b : Nat} (ha : a < n) (hb : b < n) : putB (relN R n) a b = relN (fun i j => R i j || (decide (i = a) && decide (j = b))) n := by
  funext i
  apply Nat.eq_of_testBit_eq
  intro j
  unfold putB upd
  rw [relN_bit]
  by_cases e : i = a
  · subst e
    rw [if_pos rfl, Nat.testBit_or, relN_bit, Nat.testBit_two_pow, decide_eq_true ha, decide_eq_true rfl]
    by_cases e2 : j = b
    · subst e2; rw [decide_eq_true hb, decide_eq_true rfl]; simp
    · rw [decide_eq_false e2, decide_eq_false (show ¬ b = j from fun q => e2 q.symm)]; simp
  · rw [if_neg e, relN_bit, decide_eq_false e]; simp
theorem rowJ_none {cs : List Cl} {t : Int} {row : List Stp} {st : JSt} {i : Nat} (h : rowJ cs t row st i = none) : ∀ d, rowJ cs t row st (i + d) = none
  | 0 => h
  | d + 1 => by
    have ih := rowJ_none h d
    rw [← Nat.add_assoc, rowJ, ih]; rfl
theorem rowsJ_none {cs : List Cl} {W : List (List Stp)} {k : Nat} (h : rowsJ cs W k = none) : ∀ d, rowsJ cs W (k + d) = none
  | 0 => h
  | d + 1 => by
    have ih := rowsJ_none h d
    rw [← Nat.add_assoc, rowsJ, ih]; rfl
/-- what holds of a state of the run -/
structure JOk (n : Nat) (st : JSt) : Prop where
  rel : ∃ R, st.2 = relN R n
  keys : ∀ k s, lookM st.1 k = some s → s.call = k ∧ 0 ≤ k ∧ k < (n : Int)
theorem bad_no {cs : List Cl} {t : Int} {H : List (Int × Stp)} {s : Stp} (h : badJ cs t H s = false) : ∃ b : Nat, s.call = b ∧ b < cs.length ∧ (cs.getD b default).thing = t ∧ lookM H s.call = none := by
  unfold badJ at h
  rw [Bool.or_eq_false_iff, Bool.or_eq_false_iff, Bool.or_eq_false_iff] at h
  obtain ⟨⟨⟨h1, h2⟩, h3⟩, h4⟩ := h
  have h1 := of_decide_eq_false h1
  have h2 := of_decide_eq_false h2
  refine ⟨s.call.toNat, by omega, by omega, by simpa using h3, by simpa using h4⟩
theorem bitsJ_rel {cs : List Cl} {row : List Stp} {b n : Nat} (hb : b < n) {f : Nat → Nat} (hf : ∃ R, f = relN R n) : ∀ m, (∀ q, q < m → ∃ a : Nat, (row.getD q default).call = a ∧ a < n) → ∃ R, bitsJ row b f m = relN R n
  | 0, _ => hf
  | m + 1, h => by
    obtain ⟨R, hR⟩ := bitsJ_rel (cs := cs) hb hf m fun q hq => h q (by omega)
    obtain ⟨a, ha, han⟩ := h m (by omega)
    have hq := putB_rel (R := R) han hb
    rw [bitsJ, hR, ha, show ((a : Int)).toNat = a from rfl]
    exact ⟨_, hq⟩
theorem rowJ_ok {cs : List Cl} {t : Int} {row : List Stp} {st : JSt} (h0 : JOk cs.length st) : ∀ i st', rowJ cs t row st i = some st' → JOk cs.length st' ∧ ∀ q, q < i → ∃ a : Nat, (row.getD q default).call = a ∧ a < cs.length
  | 0, st', h => by cases h; exact ⟨h0, fun q hq => by omega⟩
  | i + 1, st', h => by
    rw [rowJ, Option.bind_eq_some_iff] at h
    obtain ⟨s1, e1, e2⟩ := h
    obtain ⟨h1, h2⟩ := rowJ_ok h0 i s1 e1
    unfold addJ at e2
    split at e2
    · cases e2
    · rename_i hb
      obtain ⟨b, hb1, hb2, _, _⟩ := bad_no (Bool.eq_false_iff.2 hb)
      cases e2
      refine ⟨⟨?_, fun k s hk => ?_⟩, fun q hq => ?_⟩
      · dsimp only
        rw [hb1, show ((b : Int)).toNat = b from rfl]
        exact bitsJ_rel (cs := cs) hb2 h1.rel i h2
      · dsimp only at hk
        rw [lookM_put] at hk
        split at hk
        · rename_i e
          cases hk
          exact ⟨e.symm, by omega, by omega⟩
        · exact h1.keys k s hk
      · by_cases e : q = i
        · subst e; exact ⟨b, hb1, hb2⟩
        · exact h2 q (by omega)
theorem rowsJ_ok {cs : List Cl} {W : List (List Stp)} : ∀ k st, rowsJ cs W k = some st → JOk cs.length st
  | 0, st, h => by cases h; exact ⟨⟨_, rfl⟩, fun k s hk => by simp [lookM] at hk⟩
  | k + 1, st, h => by
    rw [rowsJ, Option.bind_eq_some_iff] at h
    obtain ⟨s1, e1, e2⟩ := h
    exact (rowJ_ok (rowsJ_ok k s1 e1) _ _ e2).1
theorem outJ_succ {H : List (Int × Stp)} {L : List Nat} {k : Nat} (hk : k < L.length) : outJ H L (k + 1) = match lookM H ((L[k] : Nat) : Int) with | some s => outJ H L k ++ [s] | none => outJ H L k := by
  unfold outJ
  rw [List.take_succ_eq_append_getElem hk, List.filterMap_append]
  cases h : lookM H ((L[k] : Nat) : Int) <;> simp [h]
theorem outJ_len (H : List (Int × Stp)) (L : List Nat) (k : Nat) : (outJ H L k).length ≤ k := by
  unfold outJ
  refine Nat.le_trans (List.length_filterMap_le _ _) ?_
  rw [List.length_take]; omega
/-! the document's map: calls to results -/
def resJ (H : List (Int × Stp)) : List (Int × Int) := H.map fun p => (p.1, p.2.res)
theorem resJ_look (k : Int) : ∀ H : List (Int × Stp), lookM (resJ H) k = (lookM H k).map (·.res)
  | [] => rfl
  | p :: H => by
    have ih := resJ_look k H
    simp only [resJ, List.map_cons, lookM] at ih ⊢
    split
    · rfl
    · exact ih
theorem resJ_put (k : Int) (s : Stp) : ∀ H : List (Int × Stp), resJ (putM H k s) = putM (resJ H) k s.res
  | [] => rfl
  | p :: H => by
    have ih := resJ_put k s H
    simp only [resJ, List.map_cons, putM] at ih ⊢
    split
    · rfl
    · simp only [List.map_cons, ih]
/-! order.Least and what may be chosen -/
theorem chk_relN (R : Nat → Nat → Bool) {n : Nat} (hn : n ≤ 12) : chkR n (relN R n) = 0 := by
  refine chkR_ok hn fun k hk => ?_
  have h1 : relN R n k / 2 ^ n = 0 := Nat.div_eq_of_lt (relN_lt_n R n k)
  unfold relBad
  rw [h1]
  by_cases h : n ≤ k
  · have : relN R n k = 0 := by unfold relN; rw [if_neg (by omega)]
    rw [this]; simp
  · simp [h]
theorem ch_cyc {n : Nat} {R : Nat → Nat → Bool} (hn : n ≤ 12) (h : chosenR n (relN R n) = none) : isCyc n (closedF n (relN R n)) = true := by
  cases hc : isCyc n (closedF n (relN R n))
  · rw [chosen_ok ⟨hn, fun i _ => relN_lt_n R n i, hc⟩] at h; cases h
  · rfl
theorem ch_fine {n : Nat} {R : Nat → Nat → Bool} {L : List Nat} (hn : n ≤ 12) (h : chosenR n (relN R n) = some L) : Fine n (relN R n) ∧ L = leastL n (closedF n (relN R n)) := by
  have hc : isCyc n (closedF n (relN R n)) = false := by
    cases hc : isCyc n (closedF n (relN R n))
    · rfl
    · rw [chosen_cyc (fun i _ => relN_lt_n R n i) hc] at h; cases h
  have hF : Fine n (relN R n) := ⟨hn, fun i _ => relN_lt_n R n i, hc⟩
  rw [chosen_ok hF] at h
  exact ⟨hF, (Option.some.inj h).symm⟩
theorem chosen_len {n : Nat} {f : Nat → Nat} {L : List Nat} (hn : n ≤ 12) (h : chosenR n f = some L) : L.length ≤ 12 := by
  unfold chosenR at h
  split at h
  · cases h; omega
  · cases h
theorem least_no {n : Nat} {f : Nat → Nat} (w : World) (hn : n ≤ 12) (hf : ∃ R, f = relN R n) (h : chosenR n f = none) :
    Calls Try.prog 55 #[.agg (relCells n f)] w fun e w' => e = .returned (.tuple #[.slice none 0 0, .int .i64 4]) ∧ Below w.heap.size w w' := by
  obtain ⟨R, rfl⟩ := hf
  exact least_cyc n _ w hn (fun i _ => relN_lt _ (by omega) i) (chk_relN _ hn) (ch_cyc hn h)
theorem least_yes {n : Nat} {f : Nat → Nat} {L : List Nat} (w : World) (hn : n ≤ 12) (hf : ∃ R, f = relN R n) (h : chosenR n f = some L) :
    Calls Try.prog 55 #[.agg (relCells n f)] w fun e w' => ∃ A c, e = .returned (.tuple #[.slice A (natL L).length c, .int .i64 0]) ∧ Own intEnc 1 3 w' w.heap.size (.slice A (natL L).length c) (natL L) ∧ Below w.heap.size w w' := by
  obtain ⟨R, rfl⟩ := hf
  obtain ⟨h1, rfl⟩ := ch_fine hn h
  exact least_ok n _ w hn (fun i _ => relN_lt _ (by omega) i) (chk_relN _ hn) h1.acyc h1.ripeC
end Go.Proofs.Ytbhjljnbjomnhaa
