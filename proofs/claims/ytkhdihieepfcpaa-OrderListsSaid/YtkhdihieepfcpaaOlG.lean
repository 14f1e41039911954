/- OrderLists: what the law's walk stands on. No condition. -/
import Derived.Test.YtkhdihieepfcpaaOlF
import Derived.Test.YtkhdihieepfcpaaOl5
import Derived.Test.YtkhdihieepfcpaaOl7
import Derived.Test.YtkhdihieepfcpaaOrder6
import Derived.Test.YtkhdihieepfcpaaOrdC
import Derived.Test.YtkhdihieepfcpaaEqual
namespace Go.Proofs.Ytkhdihieepfcpaa
open Go.RowKit

theorem Fine.po {n : Nat} {f : Nat → Nat} (h : Fine n f) (hf0 : ∀ i, n ≤ i → i < 12 → f i = 0) : Po n (closedF n f) where
  lt := fun i hi j hb => by
    refine Classical.byContradiction fun hj => ?_
    have hn := h.n12
    have hlt := wOut_lt (B := n) (f := f) (fun i hi => by
      rcases Nat.lt_or_ge i n with h' | h'
      · exact h.lt i h'
      · rw [hf0 i h' hi]; exact Nat.two_pow_pos _) n hn n hn i (by omega)
    have := Nat.testBit_lt_two_pow (Nat.lt_of_lt_of_le hlt (Nat.pow_le_pow_right (by decide) (show n ≤ j by omega)))
    have hb' : (wOut f n n i).testBit j = true := hb
    rw [hb'] at this; cases this
  irr := fun i hi => h.irr hi
  tr := fun i j k hi hj h1 h2 => h.trans hi hj h1 h2
/-- the relation turned round, as far as it is filled -/
def bkF (c : Nat → Nat) (j m i : Nat) : Nat := bitsTo (fun b => (decide (b < j) || (decide (b = j) && decide (i < m))) && (c b).testBit i) 12
theorem bkF_bit (c : Nat → Nat) (j m i b : Nat) : (bkF c j m i).testBit b = (decide (b < 12) && ((decide (b < j) || (decide (b = j) && decide (i < m))) && (c b).testBit i)) := by
  unfold bkF; rw [bitsTo_testBit]
theorem bkF_zero (c : Nat → Nat) : bkF c 0 0 = fun _ => 0 := by
  funext i
  apply Nat.eq_of_testBit_eq
  intro b
  rw [bkF_bit]; simp
theorem bkF_next {c : Nat → Nat} {n j : Nat} (h : ∀ i, (c j).testBit i = true → i < n) : bkF c j n = bkF c (j + 1) 0 := by
  funext i
  apply Nat.eq_of_testBit_eq
  intro b
  rw [bkF_bit, bkF_bit]
  by_cases e : b = j
  · subst e
    cases hc : (c b).testBit i
    · simp
    · have := h i hc
      simp [this]
  · have e1 : decide (b < j + 1) = decide (b < j) := decide_eq_decide.2 (by omega)
    simp [e, e1]
theorem bkF_no {c : Nat → Nat} {j m : Nat} (h : (c j).testBit m = false) : bkF c j (m + 1) = bkF c j m := by
  funext i
  apply Nat.eq_of_testBit_eq
  intro b
  rw [bkF_bit, bkF_bit]
  by_cases e : b = j
  · subst e
    by_cases e2 : i = m
    · subst e2; simp [h]
    · have e1 : decide (i < m + 1) = decide (i < m) := decide_eq_decide.2 (by omega)
      rw [e1]
  · simp [e]
theorem bkF_yes {c : Nat → Nat} {j m : Nat} (hj : j < 12) (h : (c j).testBit m = true) (i : Nat) : upd (bkF c j m) m (bkF c j m m ||| 2 ^ j) i = bkF c j (m + 1) i := by
  unfold upd
  by_cases e2 : i = m
  · subst e2
    rw [if_pos rfl]
    apply Nat.eq_of_testBit_eq
    intro b
    rw [Nat.testBit_or, Nat.testBit_two_pow, bkF_bit, bkF_bit]
    by_cases e : b = j
    · subst e; simp [h, hj]
    · have e3 : ¬ j = b := fun h => e h.symm
      simp [e, e3]
  · rw [if_neg e2]
    apply Nat.eq_of_testBit_eq
    intro b
    rw [bkF_bit, bkF_bit]
    have e1 : decide (i < m + 1) = decide (i < m) := decide_eq_decide.2 (by omega)
    rw [e1]
theorem bkF_lt (c : Nat → Nat) (j m i : Nat) : bkF c j m i < 65536 := bitsTo_lt_16 _ (by omega)
section
variable {n : Nat} {c : Nat → Nat}
theorem Po.bk (hn : n ≤ 12) (h : Po n c) : Po n (bkF c n 0) := by
  have hb : ∀ i b, (bkF c n 0 i).testBit b = true ↔ b < n ∧ (c b).testBit i = true := by
    intro i b
    rw [bkF_bit]; simp; omega
  refine ⟨fun i hi j h1 => ((hb i j).1 h1).1, fun i hi => ?_, fun i j k hi hj h1 h2 => ?_⟩
  · rw [Bool.eq_false_iff]
    intro h1
    have := ((hb i i).1 h1).2
    rw [h.irr i hi] at this; cases this
  · obtain ⟨_, h3⟩ := (hb i j).1 h1
    obtain ⟨h4, h5⟩ := (hb j k).1 h2
    exact (hb i k).2 ⟨h4, h.tr k j i h4 hj h5 h3⟩
/-- the ranks -/
def rkG (n : Nat) (c : Nat → Nat) (i : Nat) : Nat := hgt n (bkF c n 0) i - 1
theorem Po.g1 (hn : n ≤ 12) (h : Po n c) (i : Nat) (hi : i < n) : rkG n c i ≤ n := by have := (h.bk hn).hn hi; unfold rkG; omega
theorem Po.g2 (hn : n ≤ 12) (h : Po n c) (i j : Nat) (hi : i < n) (hj : j < n) (hb : (c i).testBit j = true) : rkG n c i + 1 ≤ rkG n c j := by
  have h2 := (h.bk hn).h2 (i := j) (j := i) hj (by rw [bkF_bit]; simp [hb]; omega)
  have h1 := (h.bk hn).h1 hi
  unfold rkG; omega
theorem Po.g3 (hn : n ≤ 12) (h : Po n c) (j : Nat) (hj : j < n) : rkG n c j = 0 ∨ ∃ i, i < n ∧ (c i).testBit j = true ∧ rkG n c j = rkG n c i + 1 := by
  rcases (h.bk hn).h3 hj with h3 | ⟨i, hi, hb, he⟩
  · left; unfold rkG; omega
  · right
    have h1 := (h.bk hn).h1 hi
    refine ⟨i, hi, ?_, by unfold rkG; omega⟩
    rw [bkF_bit] at hb
    simp at hb
    exact hb.2.2
/-- the ranks, as far as they are filled -/
def rsL (n : Nat) (G : Nat → Nat) (m : Nat) : List Int := (List.range n).map fun j => if j < m then ((G j : Nat) : Int) else 0
theorem rsL_len (n : Nat) (G : Nat → Nat) (m : Nat) : (rsL n G m).length = n := by simp [rsL]
theorem rsL_zero (n : Nat) (G : Nat → Nat) : rsL n G 0 = List.replicate n 0 := by
  apply List.ext_getElem
  · simp [rsL]
  · intro i h1 h2; simp [rsL]
theorem rsL_set {n m : Nat} {G : Nat → Nat} (hm : m < n) {x : Int} (hx : x = (G m : Nat)) : (rsL n G m).set m x = rsL n G (m + 1) := by
  apply List.ext_getElem
  · simp [rsL]
  · intro i h1 h2
    rw [List.getElem_set]
    split
    · rename_i e; subst e; simp [rsL, hx]
    · rename_i e
      simp only [rsL, List.getElem_map, List.getElem_range]
      by_cases e2 : i < m
      · rw [if_pos e2, if_pos (by omega)]
      · rw [if_neg e2, if_neg (by omega)]
theorem rsL_all (n : Nat) (G : Nat → Nat) : rsL n G n = natL ((List.range n).map G) := by
  apply List.ext_getElem
  · simp [rsL, natL]
  · intro i h1 h2
    have : i < n := by simpa [rsL] using h1
    simp [rsL, natL, this]
end
theorem closedRefT (n : Nat) (f : Nat → Nat) (w : World) (hn : n ≤ 12) (hf : ∀ i, i < n → f i < 2 ^ n) (hf0 : ∀ i, n ≤ i → i < 12 → f i = 0) (hc : isCyc n (closedF n f) = true) :
    Calls Try.prog 22 #[.agg (relCells n f)] w fun e w' => e = .returned (.tuple #[.agg (relCells n (closedF n f)), .bool true]) ∧ Below w.heap.size w w' := by
  have := closedRef_any n f w hn hf hf0
  rwa [hc] at this
theorem closedRefF (n : Nat) (f : Nat → Nat) (w : World) (hn : n ≤ 12) (hf : ∀ i, i < n → f i < 2 ^ n) (hf0 : ∀ i, n ≤ i → i < 12 → f i = 0) (hc : isCyc n (closedF n f) = false) :
    Calls Try.prog 22 #[.agg (relCells n f)] w fun e w' => e = .returned (.tuple #[.agg (relCells n (closedF n f)), .bool false]) ∧ Below w.heap.size w w' := by
  have := closedRef_any n f w hn hf hf0
  rwa [hc] at this
theorem equalNN_any (A B : Option Addr) (c d : Nat) (l m : List Nat) (w : World) (hl : l.length ≤ 1000) (hA : RdE natEnc 1 w A l) (hB : RdE natEnc 1 w B m) (he : m = l) :
    Calls Try.prog 27 #[.slice A l.length c, .slice B m.length d] w fun e w' => e = .returned (.bool true) ∧ Below w.heap.size w w' := by
  subst he
  have h := equal_any A B c d (natL m) (natL m) w (by rw [natL_len]; omega) (by rw [natL_len]; omega) hA.natInt hB.natInt
  rw [decide_eq_true rfl] at h
  rw [natL_len] at h
  exact h
theorem equalII_any (A B : Option Addr) (c d : Nat) (l m : List Int) (w : World) (hl : l.length ≤ 1000) (hA : RdInt w A l) (hB : RdInt w B m) (he : m = l) :
    Calls Try.prog 27 #[.slice A l.length c, .slice B m.length d] w fun e w' => e = .returned (.bool true) ∧ Below w.heap.size w w' := by
  subst he
  have h := equal_any A B c d m m w (by omega) (by omega) hA hB
  rw [decide_eq_true rfl] at h
  exact h
theorem ax_nil {w : World} {f : Nat} {args : Array Value} {R : List Nat} (h : Calls Try.prog f args w (AxPost w none 0 [] R)) :
    Calls Try.prog f args w fun e w' => ∃ x : Option Addr × Nat, e = .returned (.slice x.1 R.length x.2) ∧ Mem ⟨0, [], w⟩ w' [entOwn natEnc 1 3 x.1 x.2 R] := by
  refine h.mono ?_
  rintro e w' ⟨x, rfl, hx⟩
  rcases x with p | ⟨⟨hR⟩⟩
  · exact ⟨p, rfl, hx⟩
  · subst hR
    exact ⟨(none, 0), rfl, (hx.none).nilOwn _ _ _⟩
theorem ax_some {w : World} {f : Nat} {args : Array Value} {R : List Nat} (h0 : 0 < R.length) (h : Calls Try.prog f args w (AxPost w none 0 [] R)) :
    Calls Try.prog f args w fun e w' => ∃ x : Addr × Nat, e = .returned (.slice (some x.1) R.length x.2) ∧ Mem ⟨0, [], w⟩ w' [entOwn natEnc 1 3 (some x.1) x.2 R] := by
  refine (ax_nil h).mono ?_
  rintro e w' ⟨⟨B, b⟩, rfl, hx⟩
  cases B with
  | none =>
    have := (hx.nilCap (enc := natEnc) (M := 1) (et := 3) (c := b) (ls := R) (A := none) (by simp) rfl).2
    subst this; simp at h0
  | some ad => exact ⟨(ad, b), rfl, hx⟩
section
variable (n : Nat) (c : Nat → Nat) (hn : n ≤ 12) (hP : Po n c)
include hn
theorem longApart_top (w : World) : Calls Try.prog 25 #[.agg (relCells n c), .slice none ([] : List Nat).length 0, .int .i64 (0 : Nat)] w fun e w' => ∃ x : Option Addr × Nat, e = .returned (.slice x.1 (LA c n 0 []).length x.2) ∧ Mem ⟨0, [], w⟩ w' [entOwn natEnc 1 3 x.1 x.2 (LA c n 0 [])] :=
  ax_nil (longApart_all n c hn n 0 [] none 0 w (by omega) (by simp) (by simp) (RdE.nil _) (fun _ => rfl))
theorem col_none (m : Nat) (hm : m < wid n c) (w : World) : Calls Try.prog 26 #[.agg (relCells n c), .int .i64 m, .slice none ([] : List Nat).length 0] w fun e w' => e = .returned (.slice none 0 0) ∧ Below w.heap.size w w' :=
  co_none (Po.CO_few hm) (coloured_all n c m hn (by have := wid_le n c; omega) n [] none 0 w (by simp) (by simp) (RdE.nil _) (fun _ => rfl))
theorem col_some (q : List Nat) (hq : CO c (wid n c) n [] = some q) (h0 : 0 < n) (w : World) : Calls Try.prog 26 #[.agg (relCells n c), .int .i64 (wid n c), .slice none ([] : List Nat).length 0] w fun e w' => ∃ x : Addr × Nat, e = .returned (.slice (some x.1) q.length x.2) ∧ Mem ⟨0, [], w⟩ w' [entOwn natEnc 1 3 (some x.1) x.2 q] :=
  ax_some (by rw [CO_len n [] q hq]; simp; omega) ((coloured_all n c (wid n c) hn (by have := wid_le n c; omega) n [] none 0 w (by simp) (by simp) (RdE.nil _) (fun _ => rfl)).mono fun e w' hp => hp.2 q hq)
theorem col_any (q : List Nat) (hq : CO c (wid n c) n [] = some q) (w : World) : Calls Try.prog 26 #[.agg (relCells n c), .int .i64 (wid n c), .slice none ([] : List Nat).length 0] w fun e w' => ∃ x : Option Addr × Nat, e = .returned (.slice x.1 q.length x.2) ∧ Mem ⟨0, [], w⟩ w' [entOwn natEnc 1 3 x.1 x.2 q] :=
  ax_nil ((coloured_all n c (wid n c) hn (by have := wid_le n c; omega) n [] none 0 w (by simp) (by simp) (RdE.nil _) (fun _ => rfl)).mono fun e w' hp => hp.2 q hq)
end
end Go.Proofs.Ytkhdihieepfcpaa
