/- Lemmas for the walks (Order7, Order8, Order9, OrdF, To1, To2, To3, OrderA, To4, Ol1). No condition. -/
import Derived.Test.YtjdckepbihcgfaaGreatDoorG06
import Derived.Test.YtjdckepbihcgfaaGreatDoorG04
import Derived.Test.YtjdckepbihcgfaaGreatDoorG17
import Derived.Test.YtjdckepbihcgfaaGreatDoorG09
import Derived.Test.YtjdckepbihcgfaaGreatDoorG16
import Derived.Test.YtjdckepbihcgfaaGreatDoorG14
set_option linter.unusedSimpArgs false
set_option linter.unusedVariables false
set_option linter.unusedSectionVars false
set_option linter.unnecessarySimpa false
namespace Go.Proofs.YtjdckepbihcgfaaGreatDoor
open Go.RowKit

theorem wr_one : wrEnc 1 = (wrEnc 0).set 0 (.int .i64 1) := by
  show [Value.int .i64 (IntKind.i64.wrap ((1 : Nat) : Int))] = [.int .i64 1]
  rw [IntWalk.i64_in _ (by decide)]; rfl
/-- may i come next, where s are done -/
def mayS (n : Nat) (c : Nat → Nat) (s i : Nat) : Bool := decide (((s >>> i &&& 1 : Nat) : Int) = 0) && decide (((befF c i n &&& (65535 - s) : Nat) : Int) = 0)
theorem mayS_yes {n : Nat} {c : Nat → Nat} {s i : Nat} (h1 : ((s >>> i &&& 1 : Nat) : Int) = 0) (h2 : ((befF c i n &&& (65535 - s) : Nat) : Int) = 0) : mayS n c s i = true := by
  unfold mayS; rw [decide_eq_true h1, decide_eq_true h2]; rfl
theorem mayS_no {n : Nat} {c : Nat → Nat} {s i : Nat} (h : ¬ ((s >>> i &&& 1 : Nat) : Int) = 0 ∨ ¬ ((befF c i n &&& (65535 - s) : Nat) : Int) = 0) : mayS n c s i = false := by
  unfold mayS
  rcases h with h | h
  · rw [decide_eq_false h]; rfl
  · rw [decide_eq_false h, Bool.and_false]
def cntStep (n : Nat) (c : Nat → Nat) (s i : Nat) (ls : List Nat) : List Nat := if mayS n c s i then ls.set (s ||| 2 ^ i) (ls.getD (s ||| 2 ^ i) 0 + ls.getD s 0) else ls
def cntIn (n : Nat) (c : Nat → Nat) (s : Nat) : Nat → List Nat → List Nat
  | 0, ls => ls
  | i + 1, ls => cntStep n c s i (cntIn n c s i ls)
def cntOut (n : Nat) (c : Nat → Nat) : Nat → List Nat
  | 0 => (List.replicate (2 ^ n) 0).set 0 1
  | s + 1 => cntIn n c s n (cntOut n c s)
def countF (n : Nat) (c : Nat → Nat) : Nat := (cntOut n c (2 ^ n)).getD (2 ^ n - 1) 0
theorem cntIn_len (n : Nat) (c : Nat → Nat) (s : Nat) (ls : List Nat) : ∀ i, (cntIn n c s i ls).length = ls.length
  | 0 => rfl
  | i + 1 => by
    simp only [cntIn, cntStep]
    split
    · simp [cntIn_len n c s ls i]
    · exact cntIn_len n c s ls i
theorem cntOut_len (n : Nat) (c : Nat → Nat) : ∀ s, (cntOut n c s).length = 2 ^ n
  | 0 => by simp [cntOut]
  | s + 1 => by rw [cntOut, cntIn_len, cntOut_len n c s]
set_option maxRecDepth 100000 in
set_option maxHeartbeats 4000000 in
theorem count_ok (n : Nat) (f : Nat → Nat) (w : World) (hn : n ≤ 12) (hf : ∀ i, i < 12 → f i < 65536) (h0 : chkR n f = 0) (hc : isCyc n (closedF n f) = false) :
    Calls Tryz.prog 19 #[.agg (relCells n f)] w fun e w' => e = .returned (.tuple #[.int .i64 (IntKind.i64.wrap (countF n (closedF n f))), .int .i64 0]) ∧ Below w.heap.size w w' := by
  have hcf : ∀ j, j < 12 → closedF n f j < 65536 := wOut_lt (B := 16) hf n hn n hn
  have hn63 : n < 63 := by omega
  have hp0 : 0 < 2 ^ n := Nat.two_pow_pos n
  have hp1 : 2 ^ n ≤ 4096 := Nat.pow_le_pow_right (n := 2) (by omega) hn
  refine calls_T (S := []) [] Tryz.func19 rfl Tryz.ntmps19 (by simp) (Mem.nil _) ?_
  repeat' (first | ((with_reducible apply TL_e); exact ES_makeSlice (enc := wrEnc) (z0 := 0) rfl rfl rfl (by omega) (by decide) rfl; exact rfl; rintro _ _ ⟨g, rfl, rfl⟩) | refine GO ?_ | (refine GOE ?_; (first | rintro _ _ ⟨rfl, rfl⟩ | rintro _ _ ⟨g, rfl, rfl⟩ | rintro _ _ ⟨A', c', rfl, rfl⟩)) | (refine GO2 ?_ ?_ <;> (refine Zs ?_; intro h; try exact Zx)) | ((with_reducible (first | apply TD_e2z | apply TD_e3z | apply TL_e | apply TD_e2 | apply TD_e3)); ((with_reducible apply ES_callV); exact rfl; (intro w hw; exact acyclic_ok n f w hn hf h0 hc); exact rfl); (first | exact rfl | exact ⟨rfl, rfl, rfl⟩); (rintro _ _ ⟨rfl, rfl⟩); (try refine ⟨SUB, ?_⟩)) | fail)
  repeat' (first | ((with_reducible (first | apply TD_e2z | apply TD_e3z | apply TL_e | apply TD_e2 | apply TD_e3)); ((with_reducible apply ES_storeOwn1 (xx := 1)); exact rfl; exact rfl; exact Zu; exact fun _ => rfl; exact (show (List.replicate (2 ^ n) 0)[0]? = some 0 from List.getElem?_replicate_of_lt hp0); exact wr_one; exact rfl); (first | exact rfl | exact ⟨rfl, rfl, rfl⟩); (rintro _ _ ⟨rfl, rfl⟩); (try refine ⟨SUB, ?_⟩)) | refine GO ?_ | (refine GOE ?_; (first | rintro _ _ ⟨rfl, rfl⟩ | rintro _ _ ⟨g, rfl, rfl⟩ | rintro _ _ ⟨A', c', rfl, rfl⟩)) | (refine GO2 ?_ ?_ <;> (refine Zs ?_; intro h; try exact Zx)) | fail)
  rename_i gr
  refine T_loop (X := Nat)
    (fun s => [(26, .int .i64 (s : Nat)), (25, .int .i64 (2 ^ n : Nat)), (6, .slice (some ⟨g, 0, none⟩) (2 ^ n) (2 ^ n)), (4, .pointer (some ⟨gr, 0, none⟩))])
    (fun s => [entOwn wrEnc 1 3 (some ⟨g, 0, none⟩) (2 ^ n) (cntOut n (closedF n f) s), entBlk gr 43 (relCells n (closedF n f))])
    (fun s => s ≤ 2 ^ n) (fun s => 2 ^ n - s) 0 (by omega) Ze (by exact SUBS) ?_
  intro s hs
  by_cases hsn : s < 2 ^ n
  · repeat' (first | refine GO ?_ | (refine GOE ?_; (first | rintro _ _ ⟨rfl, rfl⟩ | rintro _ _ ⟨g, rfl, rfl⟩ | rintro _ _ ⟨A', c', rfl, rfl⟩)) | (refine GO2 ?_ ?_ <;> (refine Zs ?_; intro h; try exact Zx)) | fail)
    refine T_loop (X := Nat)
      (fun i => [(31, .int .i64 (i : Nat)), (30, .int .i64 (n : Nat)), (7, .int .i64 (s : Nat)), (26, .int .i64 (s : Nat)), (25, .int .i64 (2 ^ n : Nat)), (6, .slice (some ⟨g, 0, none⟩) (2 ^ n) (2 ^ n)), (4, .pointer (some ⟨gr, 0, none⟩))])
      (fun i => [entOwn wrEnc 1 3 (some ⟨g, 0, none⟩) (2 ^ n) (cntIn n (closedF n f) s i (cntOut n (closedF n f) s)), entBlk gr 43 (relCells n (closedF n f))])
      (fun i => i ≤ n) (fun i => n - i) 0 (by omega) Ze (by exact SUBS) ?_
    intro i hi
    obtain ⟨ls, hls⟩ : ∃ ls, cntIn n (closedF n f) s i (cntOut n (closedF n f) s) = ls := ⟨_, rfl⟩
    have hlen : ls.length = 2 ^ n := by rw [← hls, cntIn_len, cntOut_len]
    by_cases hin : i < n
    · have hb := bitsTo_lt_16 (fun k => (closedF n f k).testBit i) (show n ≤ 16 by omega)
      have hor : s ||| 2 ^ i < 2 ^ n := Nat.or_lt_two_pow hsn (Nat.pow_lt_pow_right (by omega) hin)
      have hpi : 2 ^ i < 9223372036854775808 := Nat.lt_of_lt_of_le (Nat.pow_lt_pow_right (a := 2) (by omega) hin) (by omega)
      have hsh : s >>> i < 9223372036854775808 := Nat.lt_of_le_of_lt (Nat.shiftRight_le _ _) (by omega)
      have hs16 : s < 65536 := by omega
      have hbf : befF (closedF n f) i n < 65536 := hb
      have hol : s ||| 2 ^ i < ls.length := by omega
      have hsl : s < ls.length := by omega
      rw [hls]
      repeat' (first | refine GO ?_ | (refine GOE ?_; (first | rintro _ _ ⟨rfl, rfl⟩ | rintro _ _ ⟨g, rfl, rfl⟩ | rintro _ _ ⟨A', c', rfl, rfl⟩)) | (refine GO2 ?_ ?_ <;> (refine Zs ?_; intro h; try exact Zx)) | ((with_reducible apply T_draw (id := 13) 14 (OT.seq [(0, 0), (0, 1), (0, 2), (0, 3), (0, 4), (0, 5), (0, 6), (0, 8), (0, 9), (0, 10), (1, 7), (1, 11), (0, 12), (0, 13), (3, 14)] .nil)); kernel_rfl; exact rfl; kernel_rfl; (repeat (first | with_reducible exact Blind.body | with_reducible apply Blind.seq | with_reducible apply Blind.block))) | refine GG ?_ | (refine GE ?_; (first | rintro _ _ ⟨rfl, rfl⟩ | rintro _ _ ⟨g, rfl, rfl⟩ | rintro _ _ ⟨A', c', rfl, rfl⟩); (try refine ⟨SUB, ?_⟩)) | refine GOF ?_ ?_ | ((with_reducible (first | apply TD_e2z | apply TD_e3z | apply TL_e | apply TD_e2 | apply TD_e3)); ((with_reducible apply ES_callV); exact rfl; (intro w hw; exact before_any n (closedF n f) i w hn (by omega) hcf); exact rfl); (first | exact rfl | exact ⟨rfl, rfl, rfl⟩); (rintro _ _ ⟨rfl, rfl⟩); (try refine ⟨SUB, ?_⟩)) | ((with_reducible (first | apply TD_e2z | apply TD_e3z | apply TL_e | apply TD_e2 | apply TD_e3)); ((with_reducible apply ES_storeOwn1 (xx := ls[s ||| 2 ^ i] + ls[s])); exact rfl; exact rfl; exact Zu; exact fun _ => rfl; exact (by simp [hol]); exact rfl; exact rfl); (first | exact rfl | exact ⟨rfl, rfl, rfl⟩); (rintro _ _ ⟨rfl, rfl⟩); (try refine ⟨SUB, ?_⟩)) | fail)
      · have e : cntIn n (closedF n f) s (i + 1) (cntOut n (closedF n f) s) = ls.set (s ||| 2 ^ i) (ls[s ||| 2 ^ i] + ls[s]) := by
          rw [cntIn, cntStep, hls, if_pos (mayS_yes (by assumption) (by assumption))]
          simp [List.getD_eq_getElem?_getD, hol, hsl]
        refine At_rounds (i + 1) (by omega) (by omega) Ze (fun w hw => ?_)
        rw [e]
        exact hw.sub (by first | ((repeat (first | with_reducible exact List.nil_sublist _ | with_reducible exact List.Sublist.refl _ | with_reducible apply List.Sublist.cons_cons | with_reducible apply List.Sublist.cons)); done) | (repeat (first | exact List.nil_sublist _ | exact List.Sublist.refl _ | apply List.Sublist.cons_cons | apply List.Sublist.cons)))
      · have e : cntIn n (closedF n f) s (i + 1) (cntOut n (closedF n f) s) = ls := by
          rw [cntIn, cntStep, hls, if_neg (by rw [mayS_no (.inr (by assumption))]; exact Bool.false_ne_true)]
        refine At_rounds (i + 1) (by omega) (by omega) Ze (fun w hw => ?_)
        rw [e]
        exact hw.sub (by first | ((repeat (first | with_reducible exact List.nil_sublist _ | with_reducible exact List.Sublist.refl _ | with_reducible apply List.Sublist.cons_cons | with_reducible apply List.Sublist.cons)); done) | (repeat (first | exact List.nil_sublist _ | exact List.Sublist.refl _ | apply List.Sublist.cons_cons | apply List.Sublist.cons)))
      · have e : cntIn n (closedF n f) s (i + 1) (cntOut n (closedF n f) s) = ls := by
          rw [cntIn, cntStep, hls, if_neg (by rw [mayS_no (.inl (by assumption))]; exact Bool.false_ne_true)]
        refine At_rounds (i + 1) (by omega) (by omega) Ze (fun w hw => ?_)
        rw [e]
        exact hw.sub (by first | ((repeat (first | with_reducible exact List.nil_sublist _ | with_reducible exact List.Sublist.refl _ | with_reducible apply List.Sublist.cons_cons | with_reducible apply List.Sublist.cons)); done) | (repeat (first | exact List.nil_sublist _ | exact List.Sublist.refl _ | apply List.Sublist.cons_cons | apply List.Sublist.cons)))
    · obtain rfl : i = n := by omega
      repeat' (first | refine GO ?_ | (refine GOE ?_; (first | rintro _ _ ⟨rfl, rfl⟩ | rintro _ _ ⟨g, rfl, rfl⟩ | rintro _ _ ⟨A', c', rfl, rfl⟩)) | (refine GO2 ?_ ?_ <;> (refine Zs ?_; intro h; try exact Zx)) | fail)
      (refine At_rounds (s + 1) ?_ ?_ ?_ ?_; (exact (by omega)); (omega); (exact Ze); (exact SUBS))
  · obtain rfl : s = 2 ^ n := by omega
    have hlen := cntOut_len n (closedF n f) (2 ^ n)
    repeat' (first | refine GO ?_ | (refine GOE ?_; (first | rintro _ _ ⟨rfl, rfl⟩ | rintro _ _ ⟨g, rfl, rfl⟩ | rintro _ _ ⟨A', c', rfl, rfl⟩)) | (refine GO2 ?_ ?_ <;> (refine Zs ?_; intro h; try exact Zx)) | fail)
    (refine At_ret Tryz.results19 rfl (fun w' hw => ?_))
    refine ⟨?_, hw.below0 rfl⟩
    have e : (cntOut n (closedF n f) (2 ^ n))[((2 ^ n : Nat) - 1 : Int).toNat]'(by omega) = countF n (closedF n f) := by
      have e1 : (((2 ^ n : Nat) : Int) - 1).toNat = 2 ^ n - 1 := by omega
      simp only [e1]
      rw [countF, List.getD_eq_getElem?_getD, List.getElem?_eq_getElem (by omega)]
      rfl
    simp only [resVal]
    rw [e]
end Go.Proofs.YtjdckepbihcgfaaGreatDoor

namespace Go.Proofs.YtjdckepbihcgfaaGreatDoor
open Go.RowKit

end Go.Proofs.YtjdckepbihcgfaaGreatDoor

namespace Go.Proofs.YtjdckepbihcgfaaGreatDoor
open Go.RowKit

/-- how many orders begin so -/
def cntO (n : Nat) (f : Nat → Nat) : Nat → List Nat → Nat
  | 0, _ => 1
  | m + 1, out => ((List.range n).map fun i => if mayC n f out i then cntO n f m (out ++ [i]) else 0).sum
end Go.Proofs.YtjdckepbihcgfaaGreatDoor

namespace Go.Proofs.YtjdckepbihcgfaaGreatDoor
open Go.RowKit

theorem countP_lt {α : Type} {p q : α → Bool} : ∀ {l : List α}, (∀ x ∈ l, p x = true → q x = true) → (∃ x ∈ l, q x = true ∧ p x = false) → l.countP p < l.countP q
  | [], _, h => by obtain ⟨x, hx, _⟩ := h; simp at hx
  | y :: l, h1, h2 => by
    have hle : l.countP p ≤ l.countP q := List.countP_mono_left (fun x hx => h1 x (by simp [hx]))
    simp only [List.countP_cons]
    by_cases hl : ∃ x ∈ l, q x = true ∧ p x = false
    · have ih := countP_lt (fun x hx => h1 x (by simp [hx])) hl
      have := h1 y (by simp)
      cases hp : p y
      · cases hq : q y <;> simp <;> omega
      · rw [hp] at this; rw [this rfl]; simp; omega
    · obtain ⟨x, hx, hq, hp⟩ := h2
      rcases List.mem_cons.1 hx with rfl | hx
      · rw [hq, hp]; simp; omega
      · exact absurd ⟨x, hx, hq, hp⟩ hl
section
variable {n : Nat} {f : Nat → Nat}
/-- what the plain laws stand on -/
structure Fine (n : Nat) (f : Nat → Nat) : Prop where
  n12 : n ≤ 12
  lt : ∀ i, i < n → f i < 2 ^ n
  acyc : isCyc n (closedF n f) = false
theorem Fine.irr (h : Fine n f) {i : Nat} (hi : i < n) : (closedF n f i).testBit i = false := by
  have := h.acyc
  rw [isCyc, List.any_eq_false] at this
  simpa using this i (by simpa using hi)
theorem Fine.dir (h : Fine n f) {i j : Nat} (hi : i < n) (hb : (f i).testBit j = true) : (closedF n f i).testBit j = true :=
  (closedF_rch h.lt hi).2 (.one hb)
theorem Fine.trans (h : Fine n f) {i j k : Nat} (hi : i < n) (hj : j < n) (h1 : (closedF n f i).testBit j = true) (h2 : (closedF n f j).testBit k = true) : (closedF n f i).testBit k = true :=
  (closedF_rch h.lt hi).2 (((closedF_rch h.lt hi).1 h1).trans ((closedF_rch h.lt hj).1 h2))
theorem mayC_iff (c : Nat → Nat) (out : List Nat) (i : Nat) : mayC n c out i = true ↔ i ∉ out ∧ ∀ j, j < n → (c j).testBit i = true → j ∈ out := by
  simp only [mayC, Bool.and_eq_true, Bool.not_eq_true', List.all_eq_true, List.mem_range, Bool.or_eq_true]
  constructor
  · rintro ⟨h1, h2⟩
    refine ⟨by simpa using h1, fun j hj hb => ?_⟩
    rcases h2 j hj with h | h
    · rw [hb] at h; cases h
    · simpa using h
  · rintro ⟨h1, h2⟩
    refine ⟨by simpa using h1, fun j hj => ?_⟩
    cases hb : (c j).testBit i
    · exact .inl rfl
    · exact .inr (by simpa using h2 j hj hb)
theorem Fine.ripeC (h : Fine n f) : Ripe n (closedF n f) := by
  intro out hnd hlt hlen
  have hex : ∃ i, i < n ∧ i ∉ out := by
    refine Decidable.byContradiction fun hno => ?_
    have hsub : List.range n ⊆ out := fun i hi => by
      refine Decidable.byContradiction fun hni => hno ⟨i, by simpa using hi, hni⟩
    have := (List.nodup_range (n := n)).length_le_of_subset hsub
    simp at this; omega
  have key : ∀ k i, i < n → i ∉ out → (List.range n).countP (fun j => (closedF n f j).testBit i) = k → ∃ i, i < n ∧ mayC n (closedF n f) out i = true := by
    intro k
    induction k using Nat.strongRecOn with
    | _ k ih =>
      intro i hi hio hk
      by_cases hall : ∀ j, j < n → (closedF n f j).testBit i = true → j ∈ out
      · exact ⟨i, hi, (mayC_iff _ _ _).2 ⟨hio, hall⟩⟩
      · have : ∃ j, j < n ∧ (closedF n f j).testBit i = true ∧ j ∉ out := by
          refine Decidable.byContradiction fun hno => hall fun j hj hb => ?_
          exact Decidable.byContradiction fun hjo => hno ⟨j, hj, hb, hjo⟩
        obtain ⟨j, hj, hb, hjo⟩ := this
        refine ih _ ?_ j hj hjo rfl
        rw [← hk]
        refine countP_lt (fun x hx hp => ?_) ⟨j, by simpa using hj, hb, h.irr hj⟩
        exact h.trans (by simpa using hx) hj hp hb
  obtain ⟨i, hi, hio⟩ := hex
  exact key _ i hi hio rfl
theorem Fine.ripe (h : Fine n f) : Ripe n f := by
  intro out hnd hlt hlen
  obtain ⟨i, hi, hm⟩ := h.ripeC out hnd hlt hlen
  rw [mayC_iff] at hm
  exact ⟨i, hi, (mayC_iff _ _ _).2 ⟨hm.1, fun j hj hb => hm.2 j hj (h.dir hj hb)⟩⟩
/-- who is ahead of one in the list is in it -/
def Down (n : Nat) (f : Nat → Nat) (out : List Nat) : Prop := ∀ i ∈ out, ∀ j, j < n → (f j).testBit i = true → j ∈ out
theorem Fine.bitlt (h : Fine n f) {i j : Nat} (hi : i < n) (hb : (f i).testBit j = true) : j < n := by
  rcases Nat.lt_or_ge j n with h' | h'
  · exact h'
  · rw [Nat.testBit_lt_two_pow (Nat.lt_of_lt_of_le (h.lt i hi) (Nat.pow_le_pow_right (by decide) h'))] at hb; cases hb
theorem Fine.mayEq (h : Fine n f) {out : List Nat} (hd : Down n f out) (i : Nat) : mayC n f out i = mayC n (closedF n f) out i := by
  rw [Bool.eq_iff_iff, mayC_iff, mayC_iff]
  refine ⟨fun ⟨h1, h2⟩ => ⟨h1, fun j hj hb => ?_⟩, fun ⟨h1, h2⟩ => ⟨h1, fun j hj hb => h2 j hj (h.dir hj hb)⟩⟩
  have hr := (closedF_rch h.lt hj).1 hb
  clear hb
  induction hr with
  | one hb => exact h2 _ hj hb
  | step hb _ ih => exact hd _ (ih ⟨h1, h2⟩ h1 h2 (h.bitlt hj hb)) _ hj hb
theorem Down.snoc {out : List Nat} {i : Nat} (hd : Down n f out) (hm : mayC n f out i = true) : Down n f (out ++ [i]) := by
  intro k hk j hj hb
  rcases List.mem_append.1 hk with hk | hk
  · exact List.mem_append.2 (.inl (hd k hk j hj hb))
  · simp only [List.mem_singleton] at hk
    subst hk
    exact List.mem_append.2 (.inl (((mayC_iff _ _ _).1 hm).2 j hj hb))
theorem Down.nil : Down n f [] := fun i hi => by simp at hi
end
end Go.Proofs.YtjdckepbihcgfaaGreatDoor

namespace Go.Proofs.YtjdckepbihcgfaaGreatDoor
open Go.RowKit

theorem le_sum_mem {x : Nat} : ∀ {l : List Nat}, x ∈ l → x ≤ l.sum
  | [], h => by cases h
  | y :: l, h => by
    rw [List.sum_cons]
    rcases List.mem_cons.1 h with rfl | h
    · omega
    · have := le_sum_mem h; omega
theorem sum_le_all {b : Nat} : ∀ {l : List Nat}, (∀ x ∈ l, x ≤ b) → l.sum ≤ l.length * b
  | [], _ => by simp
  | y :: l, h => by
    have h1 := h y List.mem_cons_self
    have h2 := sum_le_all (l := l) (b := b) fun x hx => h x (List.mem_cons_of_mem _ hx)
    rw [List.sum_cons, List.length_cons, Nat.succ_mul]; omega
theorem sum_one {p : Nat → Bool} {g : Nat → Nat} {a : Nat} (hp : ∀ i, p i = true ↔ i = a) : ∀ n, ((List.range n).map fun i => if p i = true then g i else 0).sum = if a < n then g a else 0
  | 0 => by simp
  | n + 1 => by
    rw [List.range_succ, List.map_append, List.sum_append, sum_one hp n]
    simp only [List.map_cons, List.map_nil, List.sum_cons, List.sum_nil, Nat.add_zero]
    by_cases e : n = a
    · subst e
      rw [if_neg (Nat.lt_irrefl _), if_pos ((hp n).2 rfl), if_pos (Nat.lt_succ_self _)]; omega
    · rw [if_neg (fun h => e ((hp n).1 h))]
      by_cases h : a < n
      · rw [if_pos h, if_pos (by omega)]; omega
      · rw [if_neg h, if_neg (by omega)]
theorem toSnoc {l : List Nat} {i : Nat} (h : l.Nodup) (hi : i ∉ l) : (l ++ [i]).Nodup := by
  rw [List.nodup_append]
  exact ⟨h, by simp, fun a ha b hb e => by rw [List.mem_singleton] at hb; subst hb; subst e; exact hi ha⟩
theorem cnt_pos {n : Nat} {f : Nat → Nat} (hr : Ripe n f) : ∀ (m : Nat) (out : List Nat), out.Nodup → (∀ k ∈ out, k < n) → out.length + m = n → 1 ≤ cntO n f m out
  | 0, _, _, _, _ => Nat.le_refl _
  | m + 1, out, h1, h2, h3 => by
    obtain ⟨i, hi, hm⟩ := hr out h1 h2 (by omega)
    have ih := cnt_pos hr m (out ++ [i]) (toSnoc h1 (may_new hm)) (fun k hk => by
      rcases List.mem_append.1 hk with hk | hk
      · exact h2 k hk
      · rw [List.mem_singleton.1 hk]; exact hi) (by rw [List.length_append, List.length_singleton]; omega)
    rw [cntO]
    refine Nat.le_trans ih (le_sum_mem (List.mem_map.2 ⟨i, List.mem_range.2 hi, ?_⟩))
    rw [if_pos hm]
theorem cnt_le (n : Nat) (f : Nat → Nat) : ∀ (m : Nat) (out : List Nat), cntO n f m out ≤ n ^ m
  | 0, _ => Nat.le_refl _
  | m + 1, out => by
    rw [cntO, Nat.pow_succ, Nat.mul_comm]
    refine Nat.le_trans (sum_le_all (b := n ^ m) fun x hx => ?_) (by simp)
    obtain ⟨i, _, rfl⟩ := List.mem_map.1 hx
    split
    · exact cnt_le n f m _
    · exact Nat.zero_le _
/-- an order in which each step stands ahead of the next one, and nobody behind who is ahead of him -/
structure Chain (n : Nat) (f : Nat → Nat) (w : List Nat) : Prop where
  nodup : w.Nodup
  len : w.length = n
  lt : ∀ k ∈ w, k < n
  next : ∀ k (h : k + 1 < w.length), (f (w[k]'(by omega))).testBit w[k + 1] = true
  order : ∀ p q (hp : p < w.length) (hq : q < w.length), (f w[p]).testBit w[q] = true → p < q
theorem Chain.all {n : Nat} {f : Nat → Nat} {w : List Nat} (h : Chain n f w) {i : Nat} (hi : i < n) : ∃ q, ∃ hq : q < w.length, w[q] = i := by
  have hm : i ∈ w := by
    have hsub : w ⊆ List.range n := fun k hk => List.mem_range.2 (h.lt k hk)
    refine Decidable.byContradiction fun hno => ?_
    have h1 := (toSnoc h.nodup hno).length_le_of_subset (l₂ := List.range n) (fun k hk => by
      rcases List.mem_append.1 hk with hk | hk
      · exact hsub hk
      · rw [List.mem_singleton.1 hk]; exact List.mem_range.2 hi)
    rw [List.length_append, List.length_singleton, List.length_range, h.len] at h1
    omega
  obtain ⟨q, hq, he⟩ := List.mem_iff_getElem.1 hm
  exact ⟨q, hq, he⟩
theorem take_mem {w : List Nat} (hd : w.Nodup) {k q : Nat} (hq : q < w.length) : w[q] ∈ w.take k ↔ q < k := by
  constructor
  · intro h
    obtain ⟨p, hp, he⟩ := List.mem_iff_getElem.1 h
    rw [List.length_take] at hp
    rw [List.getElem_take] at he
    have := (List.getElem_inj hd).1 he
    omega
  · intro h
    exact List.mem_iff_getElem.2 ⟨q, by rw [List.length_take]; omega, by rw [List.getElem_take]⟩
theorem Chain.may {n : Nat} {f : Nat → Nat} {w : List Nat} (h : Chain n f w) {k : Nat} (hk : k < w.length) (i : Nat) (hi : i < n) : mayC n f (w.take k) i = true ↔ i = w[k] := by
  rw [mayC_iff]
  constructor
  · rintro ⟨h1, h2⟩
    obtain ⟨q, hq, rfl⟩ := h.all hi
    have hkq : k ≤ q := Nat.le_of_not_lt fun hlt => h1 ((take_mem h.nodup hq).2 hlt)
    rcases Nat.lt_or_ge k q with hlt | hge
    · exfalso
      obtain ⟨p, rfl⟩ : ∃ p, q = p + 1 := ⟨q - 1, by omega⟩
      have := h2 w[p] (h.lt _ (List.getElem_mem _)) (h.next p hq)
      rw [take_mem h.nodup] at this
      omega
    · obtain rfl : q = k := by omega
      rfl
  · rintro rfl
    refine ⟨fun hm => absurd ((take_mem h.nodup hk).1 hm) (Nat.lt_irrefl _), fun j hj hb => ?_⟩
    obtain ⟨p, hp, rfl⟩ := h.all hj
    exact (take_mem h.nodup hp).2 (h.order p k hp hk hb)
theorem Chain.count {n : Nat} {f : Nat → Nat} {w : List Nat} (h : Chain n f w) : ∀ (m k : Nat), k + m = n → cntO n f m (w.take k) = 1
  | 0, _, _ => rfl
  | m + 1, k, hkm => by
    have hl := h.len
    have hk : k < w.length := by omega
    have ih := h.count m (k + 1) (by omega)
    rw [List.take_succ_eq_append_getElem hk] at ih
    rw [cntO]
    have e : ((List.range n).map fun i => if mayC n f (w.take k) i then cntO n f m (w.take k ++ [i]) else 0) = (List.range n).map fun i => if decide (i = w[k]) = true then cntO n f m (w.take k ++ [i]) else 0 := by
      refine List.map_congr_left fun i hi => ?_
      have hm := h.may hk i (List.mem_range.1 hi)
      by_cases e : i = w[k]
      · rw [if_pos (hm.2 e), if_pos (decide_eq_true e)]
      · rw [if_neg (fun c => e (hm.1 c)), if_neg (by simpa using e)]
    rw [e, sum_one (a := w[k]) (by simp) n, if_pos (h.lt _ (List.getElem_mem _)), ih]
theorem Chain.one {n : Nat} {f : Nat → Nat} {w : List Nat} (h : Chain n f w) : cntO n f n [] = 1 := h.count n 0 (by omega)
theorem Chain.fine {n : Nat} {f : Nat → Nat} {w : List Nat} (h : Chain n f w) (hn : n ≤ 12) (hlt : ∀ i, i < n → f i < 2 ^ n) : Fine n f := by
  refine ⟨hn, hlt, isCyc_no fun i hi => ?_⟩
  rw [Bool.eq_false_iff]
  intro hb
  have hr := (closedF_rch hlt hi).1 hb
  have key : ∀ a b, Rch (bitR f) a b → ∀ p q (hp : p < w.length) (hq : q < w.length), w[p] = a → w[q] = b → p < q := by
    intro a b hab
    induction hab with
    | one hb =>
      intro p q hp hq e1 e2
      subst e1; subst e2
      exact h.order p q hp hq hb
    | @step i k j hb t ih =>
      intro p q hp hq e1 e2
      subst e1
      have hk : k < n := by
        rcases Nat.lt_or_ge k n with h' | h'
        · exact h'
        · have h3 := hlt w[p] (h.lt _ (List.getElem_mem _))
          have h4 : (f w[p]).testBit k = true := hb
          rw [Nat.testBit_lt_two_pow (Nat.lt_of_lt_of_le h3 (Nat.pow_le_pow_right (by decide) h'))] at h4
          cases h4
      obtain ⟨r, hrl, rfl⟩ := h.all hk
      exact Nat.lt_trans (h.order p r hp hrl hb) (ih r q hrl hq rfl e2)
  obtain ⟨q, hq, he⟩ := h.all hi
  exact absurd (key i i hr q q hq hq he he) (Nat.lt_irrefl _)
end Go.Proofs.YtjdckepbihcgfaaGreatDoor

namespace Go.Proofs.YtjdckepbihcgfaaGreatDoor
open Go.RowKit

theorem fine_rank {n : Nat} {f : Nat → Nat} (hn : n ≤ 12) (hlt : ∀ i, i < n → f i < 2 ^ n) (rk : Nat → Int) (h : ∀ i j, i < n → (f i).testBit j = true → rk i < rk j) : Fine n f := by
  refine ⟨hn, hlt, isCyc_no fun i hi => ?_⟩
  rw [Bool.eq_false_iff]
  intro hb
  have hr := (closedF_rch hlt hi).1 hb
  have key : ∀ a b, Rch (bitR f) a b → a < n → rk a < rk b := by
    intro a b hab
    induction hab with
    | one hb => intro ha; exact h _ _ ha hb
    | @step i k j hb t ih =>
      intro ha
      have hk : k < n := by
        rcases Nat.lt_or_ge k n with h' | h'
        · exact h'
        · have h3 := hlt i ha
          have h4 : (f i).testBit k = true := hb
          rw [Nat.testBit_lt_two_pow (Nat.lt_of_lt_of_le h3 (Nat.pow_le_pow_right (by decide) h'))] at h4
          cases h4
      exact Int.lt_trans (h _ _ ha hb) (ih hk)
  exact absurd (key i i hr hi) (Int.lt_irrefl _)
/-- the relation, with the first k links of an order -/
def nextF (w : List Nat) (f : Nat → Nat) : Nat → Nat → Nat
  | 0 => f
  | k + 1 => upd (nextF w f k) (w.getD k 0) (nextF w f k (w.getD k 0) ||| 2 ^ w.getD (k + 1) 0)
theorem nextF_bit (w : List Nat) (f : Nat → Nat) : ∀ k a b, (nextF w f k a).testBit b = true ↔ (f a).testBit b = true ∨ ∃ j, j < k ∧ w.getD j 0 = a ∧ w.getD (j + 1) 0 = b
  | 0, a, b => by simp [nextF]
  | k + 1, a, b => by
    have ih := nextF_bit w f k a b
    rw [nextF]
    unfold upd
    by_cases e : a = w.getD k 0
    · rw [if_pos e, ← e, Nat.testBit_or, Bool.or_eq_true, ih, Nat.testBit_two_pow, decide_eq_true_eq]
      constructor
      · rintro ((h | ⟨j, hj, h1, h2⟩) | h)
        · exact .inl h
        · exact .inr ⟨j, by omega, h1, h2⟩
        · exact .inr ⟨k, by omega, e.symm, h⟩
      · rintro (h | ⟨j, hj, h1, h2⟩)
        · exact .inl (.inl h)
        · rcases Nat.lt_or_ge j k with hjk | hjk
          · exact .inl (.inr ⟨j, hjk, h1, h2⟩)
          · obtain rfl : j = k := by omega
            exact .inr h2
    · rw [if_neg e, ih]
      constructor
      · rintro (h | ⟨j, hj, h1, h2⟩)
        · exact .inl h
        · exact .inr ⟨j, by omega, h1, h2⟩
      · rintro (h | ⟨j, hj, h1, h2⟩)
        · exact .inl h
        · rcases Nat.lt_or_ge j k with hjk | hjk
          · exact .inr ⟨j, hjk, h1, h2⟩
          · obtain rfl : j = k := by omega
            exact absurd h1.symm e
theorem nextF_lt {n : Nat} {w : List Nat} {f : Nat → Nat} (hf : ∀ i, f i < 2 ^ n) (hw : ∀ k ∈ w, k < n) : ∀ k, k < w.length → ∀ i, nextF w f k i < 2 ^ n
  | 0, _, i => hf i
  | k + 1, hk, i => by
    have ih := nextF_lt hf hw k (by omega)
    rw [nextF]
    unfold upd
    split
    · refine Nat.or_lt_two_pow (ih _) ?_
      have : w.getD (k + 1) 0 < n := by
        rw [List.getD_eq_getElem?_getD, List.getElem?_eq_getElem hk]
        exact hw _ (List.getElem_mem _)
      exact Nat.pow_lt_pow_right (by decide) this
    · exact ih i
theorem nextF_out {n : Nat} {w : List Nat} {f : Nat → Nat} (hf : ∀ i, n ≤ i → f i = 0) (hw : ∀ k ∈ w, k < n) : ∀ k, k < w.length → ∀ i, n ≤ i → nextF w f k i = 0
  | 0, _, i, hi => hf i hi
  | k + 1, hk, i, hi => by
    rw [nextF]
    unfold upd
    rw [if_neg]
    · exact nextF_out hf hw k (by omega) i hi
    · intro e
      have : w.getD k 0 < n := by
        rw [List.getD_eq_getElem?_getD, List.getElem?_eq_getElem (by omega)]
        exact hw _ (List.getElem_mem _)
      omega
theorem next_chain {n : Nat} {f : Nat → Nat} {w : List Nat} (hd : w.Nodup) (hl : w.length = n) (hlt : ∀ k ∈ w, k < n) (ho : ∀ p q (hp : p < w.length) (hq : q < w.length), (f w[p]).testBit w[q] = true → p < q) : Chain n (nextF w f (n - 1)) w := by
  have hg : ∀ j (h : j < w.length), w.getD j 0 = w[j] := fun j h => by rw [List.getD_eq_getElem?_getD, List.getElem?_eq_getElem h]; rfl
  refine ⟨hd, hl, hlt, fun k h => ?_, fun p q hp hq hb => ?_⟩
  · rw [nextF_bit]
    exact .inr ⟨k, by omega, hg k _, hg (k + 1) _⟩
  · rw [nextF_bit] at hb
    rcases hb with hb | ⟨j, hj, h1, h2⟩
    · exact ho p q hp hq hb
    · rw [hg j (by omega)] at h1
      rw [hg (j + 1) (by omega)] at h2
      have h3 := (List.getElem_inj hd).1 h1
      have h4 := (List.getElem_inj hd).1 h2
      omega
end Go.Proofs.YtjdckepbihcgfaaGreatDoor

namespace Go.Proofs.YtjdckepbihcgfaaGreatDoor
open Go.RowKit

def callW (r : List Stp) : List Nat := r.map fun s => s.call.toNat
theorem steps_order {ts : List Int} {cs : List Cl} {f : Nat → Nat} {r : List Stp} (hp : PathW ts cs r) (h : StepsOk cs f r) (hc : compW cs r = true) (hR : RelOk cs f) (hall : ∀ i, i < cs.length → (callAt cs i).to ≠ -1) :
    (callW r).Nodup ∧ (callW r).length = cs.length ∧ (∀ k ∈ callW r, k < cs.length) ∧ ∀ p q (hp : p < (callW r).length) (hq : q < (callW r).length), (f (callW r)[p]).testBit (callW r)[q] = true → p < q := by
  have hlt : ∀ k ∈ callW r, k < cs.length := fun k hk => by
    obtain ⟨s, hs, rfl⟩ := List.mem_map.1 hk
    exact (h.call s hs).2
  have hat : ∀ p (hp : p < (callW r).length), ∃ hq : p < r.length, (callW r)[p] = r[p].call.toNat := fun p hp => by
    have hq : p < r.length := by unfold callW at hp; rwa [List.length_map] at hp
    exact ⟨hq, by simp [callW]⟩
  have hnd : (callW r).Nodup := by
    rw [List.Nodup, List.pairwise_iff_getElem]
    intro p q hp hq hpq e
    obtain ⟨h1, e1⟩ := hat q hq
    obtain ⟨h2, e2⟩ := hat p hp
    rw [e1, e2] at e
    have := h.once p q r[p] r[q] (List.getElem?_eq_getElem h2) (List.getElem?_eq_getElem h1) e
    omega
  refine ⟨hnd, ?_, hlt, fun p q hp' hq' hb => ?_⟩
  · have h1 : (callW r).length ≤ cs.length := by
      have := hp.len
      unfold callW
      rw [List.length_map]; omega
    have h2 : cs.length ≤ (callW r).length := by
      have := (List.nodup_range (n := cs.length)).length_le_of_subset (l₂ := callW r) fun i hi => by
        rw [List.mem_range] at hi
        obtain ⟨s, hs, e⟩ := (h.mask i).1 (compM_iff.1 hc i hi (hall i hi))
        exact List.mem_map.2 ⟨s, hs, e⟩
      rwa [List.length_range] at this
    omega
  · obtain ⟨h1, e1⟩ := hat p hp'
    obtain ⟨h2, e2⟩ := hat q hq'
    rw [e1, e2] at hb
    have h3 := h.order p q r[p] r[q] (List.getElem?_eq_getElem h1) (List.getElem?_eq_getElem h2) hb
    rcases Nat.lt_or_eq_of_le h3 with h4 | h4
    · exact h4
    · subst h4
      exact absurd rfl (hR _ _ hb).2.2.1
end Go.Proofs.YtjdckepbihcgfaaGreatDoor

namespace Go.Proofs.YtjdckepbihcgfaaGreatDoor
open Go.RowKit

section
variable {n : Nat} {f : Nat → Nat}
theorem Fine.cntEq (h : Fine n f) : ∀ m out, Down n f out → cntO n f m out = cntO n (closedF n f) m out
  | 0, _, _ => rfl
  | m + 1, out, hd => by
    simp only [cntO]
    congr 1
    refine List.map_congr_left fun i _ => ?_
    rw [← h.mayEq hd i]
    split
    · rename_i hm
      exact h.cntEq m _ (hd.snoc hm)
    · rfl
end

/-! the counts, over sets -/
def bmF (n : Nat) (c : Nat → Nat) : Nat → Nat → Nat
  | 0, _ => 1
  | m + 1, s => ((List.range n).map fun i => if mayS n c s i then bmF n c m (s ||| 2 ^ i) else 0).sum
theorem mayS_mask {n : Nat} {c : Nat → Nat} {out : List Nat} (hn : n ≤ 12) (hout : ∀ k ∈ out, k < n) (i : Nat) : mayS n c (maskOf out) i = mayC n c out i := by
  rw [Bool.eq_iff_iff, may_mask n c out i hn hout, mayS, Bool.and_eq_true, decide_eq_true_eq, decide_eq_true_eq]
theorem cnt_mask {n : Nat} {c : Nat → Nat} (hn : n ≤ 12) : ∀ m out, (∀ k ∈ out, k < n) → cntO n c m out = bmF n c m (maskOf out)
  | 0, _, _ => rfl
  | m + 1, out, hout => by
    simp only [cntO, bmF]
    congr 1
    refine List.map_congr_left fun i hi => ?_
    rw [mayS_mask hn hout i]
    split
    · rw [cnt_mask hn m (out ++ [i]) (fun k hk => by
        rcases List.mem_append.1 hk with h | h
        · exact hout k h
        · simp only [List.mem_singleton] at h; subst h; simpa using hi), maskOf_snoc]
    · rfl
def cardTo (s : Nat) : Nat → Nat
  | 0 => 0
  | k + 1 => cardTo s k + if s.testBit k then 1 else 0
theorem cardTo_le (s : Nat) : ∀ k, cardTo s k ≤ k
  | 0 => Nat.le_refl _
  | k + 1 => by have := cardTo_le s k; simp only [cardTo]; split <;> omega
theorem cardTo_far {s i : Nat} : ∀ k, k ≤ i → cardTo (s ||| 2 ^ i) k = cardTo s k
  | 0, _ => rfl
  | k + 1, h => by
    simp only [cardTo, cardTo_far (s := s) (i := i) k (by omega), Nat.testBit_or, Nat.testBit_two_pow]
    have : ¬ i = k := by omega
    simp [this]
theorem cardTo_new {s i : Nat} (hb : s.testBit i = false) : ∀ k, i < k → cardTo (s ||| 2 ^ i) k = cardTo s k + 1
  | 0, h => by omega
  | k + 1, h => by
    simp only [cardTo, Nat.testBit_or, Nat.testBit_two_pow]
    by_cases e : i = k
    · subst e
      rw [cardTo_far i (Nat.le_refl _)]
      simp [hb]
    · rw [cardTo_new hb k (by omega)]
      have : decide (i = k) = false := by simpa using e
      rw [this, Bool.or_false]
      omega
theorem cardTo_full {s : Nat} : ∀ k, cardTo s k = k → ∀ i, i < k → s.testBit i = true
  | 0, _, i, hi => by omega
  | k + 1, h, i, hi => by
    have hle := cardTo_le s k
    simp only [cardTo] at h
    by_cases hb : s.testBit k = true
    · rw [if_pos hb] at h
      by_cases e : i = k
      · subst e; exact hb
      · exact cardTo_full k (by omega) i (by omega)
    · rw [if_neg hb] at h; omega
theorem cardTo_top (n : Nat) : ∀ k, k ≤ n → cardTo (2 ^ n - 1) k = k
  | 0, _ => rfl
  | k + 1, h => by
    simp only [cardTo, cardTo_top n k (by omega), Nat.testBit_two_pow_sub_one]
    have : k < n := by omega
    simp [this]
theorem cardTo_zero : ∀ k, cardTo 0 k = 0
  | 0 => rfl
  | k + 1 => by simp [cardTo, cardTo_zero k]
theorem top_of_full {n s : Nat} (hs : s < 2 ^ n) (h : ∀ i, i < n → s.testBit i = true) : s = 2 ^ n - 1 := by
  apply Nat.eq_of_testBit_eq
  intro i
  rw [Nat.testBit_two_pow_sub_one]
  by_cases hi : i < n
  · simp [hi, h i hi]
  · have : s.testBit i = false := Nat.testBit_lt_two_pow (Nat.lt_of_lt_of_le hs (Nat.pow_le_pow_right (by decide) (by omega)))
    simp [this, hi]
theorem mayS_bit {n : Nat} {c : Nat → Nat} {s i : Nat} (h : mayS n c s i = true) : s.testBit i = false := by
  simp only [mayS, Bool.and_eq_true, decide_eq_true_eq] at h
  exact (bit_zero s i).1 h.1
theorem or_gt {s i : Nat} (hb : s.testBit i = false) : s < s ||| 2 ^ i := by
  have h1 : s ≤ s ||| 2 ^ i := Nat.left_le_or
  have h2 : s ≠ s ||| 2 ^ i := fun e => by
    have : (s ||| 2 ^ i).testBit i = true := by simp [Nat.testBit_or, Nat.testBit_two_pow]
    rw [← e, hb] at this; cases this
  omega
/-- what is still to come, of all sets from a on -/
def phi (B : Nat → Nat) (ls : List Nat) : Nat → Nat → Nat
  | 0, _ => 0
  | m + 1, a => ls.getD a 0 * B a + phi B ls m (a + 1)
theorem phi_far (B : Nat → Nat) (ls : List Nat) (k v : Nat) : ∀ m a, k < a → phi B (ls.set k v) m a = phi B ls m a
  | 0, _, _ => rfl
  | m + 1, a, h => by
    simp only [phi, phi_far B ls k v m (a + 1) (by omega)]
    congr 2
    simp only [List.getD_eq_getElem?_getD]
    rw [List.getElem?_set_ne (by omega)]
theorem phi_set (B : Nat → Nat) (ls : List Nat) (k x : Nat) (hk : k < ls.length) : ∀ m a, a ≤ k → k < a + m → phi B (ls.set k (ls.getD k 0 + x)) m a = phi B ls m a + x * B k
  | 0, a, h1, h2 => by omega
  | m + 1, a, h1, h2 => by
    simp only [phi]
    by_cases e : a = k
    · subst e
      rw [phi_far B ls a _ m (a + 1) (by omega)]
      have : (ls.set a (ls.getD a 0 + x)).getD a 0 = ls.getD a 0 + x := by
        simp [List.getD_eq_getElem?_getD, hk]
      rw [this, Nat.add_mul]
      omega
    · rw [phi_set B ls k x hk m (a + 1) (by omega) (by omega)]
      have : (ls.set k (ls.getD k 0 + x)).getD a 0 = ls.getD a 0 := by
        simp only [List.getD_eq_getElem?_getD]
        rw [List.getElem?_set_ne (by omega)]
      rw [this]
      omega
def bF (n : Nat) (c : Nat → Nat) (s : Nat) : Nat := bmF n c (n - cardTo s n) s
def nextTo (n : Nat) (c : Nat → Nat) (s i : Nat) : Nat := ((List.range i).map fun i => if mayS n c s i then bF n c (s ||| 2 ^ i) else 0).sum
theorem bF_next {n : Nat} {c : Nat → Nat} {s : Nat} (h : cardTo s n < n) : bF n c s = nextTo n c s n := by
  obtain ⟨m, hm⟩ : ∃ m, n - cardTo s n = m + 1 := ⟨n - cardTo s n - 1, by omega⟩
  unfold bF nextTo
  rw [hm, bmF]
  congr 1
  refine List.map_congr_left fun i hi => ?_
  split
  · rename_i hs
    unfold bF
    rw [cardTo_new (mayS_bit hs) n (by simpa using hi), show n - (cardTo s n + 1) = m by omega]
  · rfl
theorem cntIn_phi {n : Nat} {c : Nat → Nat} {s : Nat} (hs : s < 2 ^ n) (ls : List Nat) (hl : ls.length = 2 ^ n) : ∀ i, i ≤ n →
    (cntIn n c s i ls).getD s 0 = ls.getD s 0 ∧ phi (bF n c) (cntIn n c s i ls) (2 ^ n - (s + 1)) (s + 1) = phi (bF n c) ls (2 ^ n - (s + 1)) (s + 1) + ls.getD s 0 * nextTo n c s i
  | 0, _ => by simp [cntIn, nextTo]
  | i + 1, h => by
    obtain ⟨h1, h2⟩ := cntIn_phi hs ls hl i (by omega)
    have hlen := cntIn_len n c s ls i
    simp only [cntIn, cntStep]
    have hn : nextTo n c s (i + 1) = nextTo n c s i + if mayS n c s i then bF n c (s ||| 2 ^ i) else 0 := by simp [nextTo, List.range_succ]
    rw [hn]
    split
    · rename_i hm
      have hgt := or_gt (mayS_bit hm)
      have hlt : s ||| 2 ^ i < 2 ^ n := Nat.or_lt_two_pow hs (Nat.pow_lt_pow_right (by omega) (by omega))
      refine ⟨?_, ?_⟩
      · rw [← h1]
        simp only [List.getD_eq_getElem?_getD]
        rw [List.getElem?_set_ne (by omega)]
      · rw [phi_set _ _ _ _ (by omega) _ _ (by omega) (by omega), h2, h1, Nat.mul_add]
        omega
    · exact ⟨h1, by rw [h2]; simp⟩
theorem cntOut_phi {n : Nat} {c : Nat → Nat} : ∀ s, s < 2 ^ n → phi (bF n c) (cntOut n c s) (2 ^ n - s) s = bF n c 0
  | 0, _ => by
    have hp : 0 < 2 ^ n := Nat.two_pow_pos n
    obtain ⟨m, hm⟩ : ∃ m, 2 ^ n = m + 1 := ⟨2 ^ n - 1, by omega⟩
    have hz : ∀ m a, phi (bF n c) (List.replicate (2 ^ n) 0) m a = 0 := by
      intro m
      induction m with
      | zero => intro a; rfl
      | succ m ih =>
        intro a
        simp only [phi, ih]
        have : (List.replicate (2 ^ n) 0).getD a 0 = 0 := by
          simp only [List.getD_eq_getElem?_getD, List.getElem?_replicate]
          split <;> rfl
        rw [this, Nat.zero_mul]
    have : phi (bF n c) ((List.replicate (2 ^ n) 0).set 0 ((List.replicate (2 ^ n) 0).getD 0 0 + 1)) (2 ^ n) 0 = _ := phi_set (bF n c) (List.replicate (2 ^ n) 0) 0 1 (by simpa using hp) (2 ^ n) 0 (Nat.le_refl _) (by omega)
    rw [hz] at this
    have e0 : (List.replicate (2 ^ n) 0).getD 0 0 = 0 := by
      simp only [List.getD_eq_getElem?_getD, List.getElem?_replicate]
      split <;> rfl
    rw [e0] at this
    simpa [cntOut] using this
  | s + 1, hs => by
    have ih := cntOut_phi s (n := n) (c := c) (by omega)
    obtain ⟨h1, h2⟩ := cntIn_phi (c := c) (show s < 2 ^ n by omega) (cntOut n c s) (cntOut_len n c s) n (Nat.le_refl _)
    rw [cntOut, h2]
    rw [show 2 ^ n - s = (2 ^ n - (s + 1)) + 1 by omega, phi] at ih
    have hc : cardTo s n < n := by
      have hle := cardTo_le s n
      refine Nat.lt_of_le_of_ne hle fun e => ?_
      have := top_of_full (show s < 2 ^ n by omega) (cardTo_full n e)
      omega
    rw [← bF_next hc, Nat.add_comm]
    exact ih
theorem countF_eq (n : Nat) (c : Nat → Nat) : countF n c = bmF n c n 0 := by
  have hp : 0 < 2 ^ n := Nat.two_pow_pos n
  have h := cntOut_phi (c := c) (2 ^ n - 1) (show 2 ^ n - 1 < 2 ^ n by omega)
  rw [show 2 ^ n - (2 ^ n - 1) = 1 by omega] at h
  simp only [phi, Nat.add_zero] at h
  have hb : bF n c (2 ^ n - 1) = 1 := by
    unfold bF
    rw [cardTo_top n n (Nat.le_refl _), Nat.sub_self]; rfl
  have h0 : bF n c 0 = bmF n c n 0 := by
    unfold bF
    rw [cardTo_zero]; rfl
  rw [hb, h0, Nat.mul_one] at h
  rw [← h]
  unfold countF
  have e : 2 ^ n = (2 ^ n - 1) + 1 := by omega
  have hstep : cntOut n c (2 ^ n) = cntIn n c (2 ^ n - 1) n (cntOut n c (2 ^ n - 1)) := by
    conv => lhs; rw [e]
    rw [cntOut]
  rw [hstep]
  exact (cntIn_phi (c := c) (show 2 ^ n - 1 < 2 ^ n by omega) (cntOut n c (2 ^ n - 1)) (cntOut_len n c _) n (Nat.le_refl _)).1
theorem Fine.countEq {n : Nat} {f : Nat → Nat} (h : Fine n f) : countF n (closedF n f) = cntO n f n [] := by
  rw [countF_eq, h.cntEq n [] Down.nil, cnt_mask h.n12 n [] (by simp)]
  rfl
end Go.Proofs.YtjdckepbihcgfaaGreatDoor

namespace Go.Proofs.YtjdckepbihcgfaaGreatDoor
open Go.RowKit

theorem relAhead_fine {cs : List Cl} (h12 : cs.length ≤ 12) (ht : ClsTo 200 cs) : Fine cs.length (relAhead cs) :=
  fine_rank h12 (fun i _ => relN_lt_n _ _ i) (fun i => (cs.getD i default).from_) fun i j hi hb => by
    unfold relAhead at hb
    rw [relN_bit, Bool.and_eq_true, Bool.and_eq_true, decide_eq_true_eq, decide_eq_true_eq] at hb
    obtain ⟨hi, hj, ha⟩ := hb
    unfold aheadP at ha
    rw [clD hi, clD hj, Bool.and_eq_true, Bool.not_eq_true', decide_eq_false_iff_not, decide_eq_true_eq] at ha
    rw [clD hi, clD hj]
    rcases ht.to i hi with h1 | h1
    · exact absurd h1 ha.1
    · omega
theorem relAhead_out (cs : List Cl) (i : Nat) (h : cs.length ≤ i) : relAhead cs i = 0 := by
  unfold relAhead relN
  rw [if_neg (by omega)]
theorem fit_16 {n : Nat} {f : Nat → Nat} (hn : n ≤ 12) (hlt : ∀ i, f i < 2 ^ n) (i : Nat) : f i < 65536 :=
  Nat.lt_of_lt_of_le (hlt i) (Nat.pow_le_pow_right (n := 2) (i := n) (j := 16) (by decide) (by omega))
theorem fit_chk {n : Nat} {f : Nat → Nat} (hn : n ≤ 12) (hlt : ∀ i, f i < 2 ^ n) (hout : ∀ i, n ≤ i → f i = 0) : chkR n f = 0 := by
  refine chkR_ok hn fun k hk => ?_
  have h1 : f k / 2 ^ n = 0 := Nat.div_eq_of_lt (hlt k)
  unfold relBad
  rw [h1]
  by_cases h : n ≤ k
  · rw [hout k h]; simp
  · simp [h]
theorem cnt_small {n : Nat} (f : Nat → Nat) (hn : n ≤ 9) : cntO n f n [] ≤ 387420489 := by
  refine Nat.le_trans (cnt_le n f n []) ?_
  exact Nat.le_trans (Nat.pow_le_pow_left hn n) (Nat.pow_le_pow_right (n := 9) (i := n) (j := 9) (by decide) hn)
theorem count_fine {n : Nat} {f : Nat → Nat} (w : World) (hn : n ≤ 9) (hlt : ∀ i, f i < 2 ^ n) (hout : ∀ i, n ≤ i → f i = 0) (hF : Fine n f) :
    Calls Tryz.prog 19 #[.agg (relCells n f)] w fun e w' => e = .returned (.tuple #[.int .i64 (cntO n f n [] : Nat), .int .i64 0]) ∧ Below w.heap.size w w' := by
  have h := count_ok n f w (by omega) (fun i _ => fit_16 (by omega) hlt i) (fit_chk (by omega) hlt hout) hF.acyc
  have hc := cnt_small f hn
  rw [hF.countEq, IntWalk.i64_in _ ⟨by omega, by omega⟩] at h
  exact h
/-- what is so of the found order, where all were answered -/
structure Ord (cs : List Cl) (r : List Stp) : Prop where
  len : r.length = cs.length
  at_ : ∀ k (hk : k < r.length), ∃ a : Nat, a < cs.length ∧ (∃ x, r[k] = ⟨(a : Int), x⟩) ∧ (callW r).getD k 0 = a
  lt : ∀ k, k ≤ cs.length - 1 → ∀ i, nextF (callW r) (relAhead cs) k i < 2 ^ cs.length
  out : ∀ k, k ≤ cs.length - 1 → ∀ i, cs.length ≤ i → nextF (callW r) (relAhead cs) k i = 0
  fine : Fine cs.length (relAhead cs)
  fine2 : Fine cs.length (nextF (callW r) (relAhead cs) (cs.length - 1))
  pos : 1 ≤ cntO cs.length (relAhead cs) cs.length []
  one : cntO cs.length (nextF (callW r) (relAhead cs) (cs.length - 1)) cs.length [] = 1
theorem ord_all {ts : List Int} {cs : List Cl} {r : List Stp} (h : SeaOk ts cs) (hr : foundS ts cs (relAhead cs) = some r) (hall : ∀ c ∈ cs, c.to ≠ -1) : Ord cs r := by
  obtain ⟨hp, h2, hc⟩ := found_steps h.calls cs.length [] (path_nil h.types) (steps_nil cs _) r hr
  have h9 := h.few
  obtain ⟨hd, hl, hlt, ho⟩ := steps_order hp h2 hc (relOk_ahead h) (fun i hi => by rw [callAt_eq hi]; exact hall _ (List.getElem_mem _))
  have hrl : r.length = cs.length := by
    have : (callW r).length = r.length := by unfold callW; rw [List.length_map]
    omega
  have hF := relAhead_fine (cs := cs) (by omega) h.tos
  have hch := next_chain hd hl hlt ho
  have hlt0 : ∀ i, relAhead cs i < 2 ^ cs.length := fun i => relN_lt_n _ _ i
  have hl1 : ∀ k, k ≤ cs.length - 1 → ∀ i, nextF (callW r) (relAhead cs) k i < 2 ^ cs.length := fun k hk i => by
    by_cases h0 : cs.length = 0
    · obtain rfl : k = 0 := by omega
      exact hlt0 i
    · exact nextF_lt hlt0 hlt k (by omega) i
  refine ⟨hrl, fun k hk => ?_, hl1, fun k hk i hi => ?_, hF, hch.fine (by omega) (fun i _ => hl1 _ (Nat.le_refl _) i), ?_, hch.one⟩
  · have hs := h2.call r[k] (List.getElem_mem _)
    refine ⟨r[k].call.toNat, hs.2, ⟨r[k].res, ?_⟩, ?_⟩
    · have e : ((r[k].call.toNat : Nat) : Int) = r[k].call := by omega
      rw [e]
    · unfold callW
      rw [List.getD_eq_getElem?_getD, List.getElem?_map, List.getElem?_eq_getElem hk]; rfl
  · by_cases h0 : cs.length = 0
    · obtain rfl : k = 0 := by omega
      exact relAhead_out cs i hi
    · exact nextF_out (relAhead_out cs) hlt k (by omega) i hi
  · exact cnt_pos hF.ripe cs.length [] List.nodup_nil (by simp) (by simp)
end Go.Proofs.YtjdckepbihcgfaaGreatDoor

namespace Go.Proofs.YtjdckepbihcgfaaGreatDoor
/-! Heights: the longest chains that begin with an item -/
structure Po (n : Nat) (c : Nat → Nat) : Prop where
  lt : ∀ i, i < n → ∀ j, (c i).testBit j = true → j < n
  irr : ∀ i, i < n → (c i).testBit i = false
  tr : ∀ i j k, i < n → j < n → (c i).testBit j = true → (c j).testBit k = true → (c i).testBit k = true
def rkF (n : Nat) (c : Nat → Nat) (i : Nat) : Nat := (List.range n).countP fun j => (c i).testBit j
def bestStep (c : Nat → Nat) (F : Nat → List Nat) (i : Nat) (b : List Nat) (j : Nat) : List Nat := if (c i).testBit j = true ∧ b.length < (F j).length then F j else b
def bestL (c : Nat → Nat) (F : Nat → List Nat) (i m : Nat) : List Nat := (List.range m).foldl (bestStep c F i) []
def LC (n : Nat) (c : Nat → Nat) : Nat → Nat → List Nat
  | 0, i => [i]
  | f + 1, i => i :: bestL c (LC n c f) i n
def chn (n : Nat) (c : Nat → Nat) (i : Nat) : List Nat := LC n c n i
def hgt (n : Nat) (c : Nat → Nat) (i : Nat) : Nat := (chn n c i).length
theorem bestL_succ (c : Nat → Nat) (F : Nat → List Nat) (i m : Nat) : bestL c F i (m + 1) = bestStep c F i (bestL c F i m) m := by
  simp [bestL, List.range_succ]
theorem bestL_congr {c : Nat → Nat} {F G : Nat → List Nat} {i : Nat} : ∀ m, (∀ j, j < m → (c i).testBit j = true → F j = G j) → bestL c F i m = bestL c G i m
  | 0, _ => rfl
  | m + 1, h => by
    rw [bestL_succ, bestL_succ, bestL_congr m (fun j hj => h j (by omega))]
    unfold bestStep
    by_cases hb : (c i).testBit m = true
    · rw [h m (by omega) hb]
    · simp [hb]
theorem countP_lt' {α : Type} {p q : α → Bool} : ∀ {l : List α}, (∀ x ∈ l, p x = true → q x = true) → (∃ x ∈ l, q x = true ∧ p x = false) → l.countP p < l.countP q
  | [], _, h => by obtain ⟨x, hx, _⟩ := h; simp at hx
  | y :: l, h1, h2 => by
    have hle : l.countP p ≤ l.countP q := List.countP_mono_left (fun x hx => h1 x (by simp [hx]))
    simp only [List.countP_cons]
    by_cases hl : ∃ x ∈ l, q x = true ∧ p x = false
    · have ih := countP_lt' (fun x hx => h1 x (by simp [hx])) hl
      have := h1 y (by simp)
      cases hp : p y
      · cases hq : q y <;> simp <;> omega
      · rw [hp] at this; rw [this rfl]; simp; omega
    · obtain ⟨x, hx, hq, hp⟩ := h2
      rcases List.mem_cons.1 hx with rfl | hx
      · rw [hq, hp]; simp; omega
      · exact absurd ⟨x, hx, hq, hp⟩ hl
section
variable {n : Nat} {c : Nat → Nat}
theorem Po.rk_lt (h : Po n c) {i j : Nat} (hi : i < n) (hb : (c i).testBit j = true) : rkF n c j < rkF n c i := by
  have hj := h.lt i hi j hb
  exact countP_lt' (fun x hx hp => h.tr i j x hi hj hb hp) ⟨j, by simpa using hj, hb, h.irr j hj⟩
theorem rk_le (i : Nat) : rkF n c i ≤ n := by
  have := List.countP_le_length (p := fun j => (c i).testBit j) (l := List.range n)
  simpa [rkF] using this
theorem Po.LC_eq (h : Po n c) : ∀ f f' i, i < n → rkF n c i ≤ f → rkF n c i ≤ f' → LC n c f i = LC n c f' i
  | 0, 0, i, hi, _, _ => rfl
  | 0, f' + 1, i, hi, h0, _ => by
    have e : bestL c (LC n c f') i n = bestL c (fun _ => []) i n := bestL_congr n (fun j hj hb => by have := h.rk_lt hi hb; omega)
    have e2 : ∀ m, bestL c (fun _ => []) i m = [] := by
      intro m
      induction m with
      | zero => rfl
      | succ m ih => rw [bestL_succ, ih]; simp [bestStep]
    simp [LC, e, e2]
  | f + 1, 0, i, hi, _, h0 => (h.LC_eq 0 (f + 1) i hi h0 (by omega)).symm
  | f + 1, f' + 1, i, hi, h1, h2 => by
    simp only [LC]
    congr 1
    refine bestL_congr n (fun j hj hb => ?_)
    have := h.rk_lt hi hb
    exact h.LC_eq f f' j hj (by omega) (by omega)
theorem Po.chn_eq (h : Po n c) {i : Nat} (hi : i < n) : chn n c i = i :: bestL c (chn n c) i n := by
  unfold chn
  rw [h.LC_eq n (n + 1) i hi (rk_le i) (by have := rk_le (n := n) (c := c) i; omega)]
  rfl
/-- what the best is -/
theorem best_spec (c : Nat → Nat) (F : Nat → List Nat) (i : Nat) : ∀ m, (∀ j, j < m → (c i).testBit j = true → (F j).length ≤ (bestL c F i m).length) ∧
    (bestL c F i m = [] ∨ ∃ j, j < m ∧ (c i).testBit j = true ∧ bestL c F i m = F j ∧ ∀ j', j' < j → (c i).testBit j' = true → (F j').length < (F j).length)
  | 0 => ⟨fun j hj => by omega, .inl rfl⟩
  | m + 1 => by
    obtain ⟨i1, i2⟩ := best_spec c F i m
    rw [bestL_succ]
    unfold bestStep
    split
    · rename_i hc
      refine ⟨fun j hj hb => ?_, .inr ⟨m, by omega, hc.1, rfl, fun j' hj' hb' => ?_⟩⟩
      · by_cases e : j = m
        · subst e; exact Nat.le_refl _
        · have := i1 j (by omega) hb; omega
      · have := i1 j' hj' hb'; omega
    · rename_i hc
      refine ⟨fun j hj hb => ?_, ?_⟩
      · by_cases e : j = m
        · subst e
          exact Nat.le_of_not_lt fun hl => hc ⟨hb, hl⟩
        · exact i1 j (by omega) hb
      · rcases i2 with h | ⟨j, h1, h2, h3, h4⟩
        · exact .inl h
        · exact .inr ⟨j, by omega, h2, h3, h4⟩
theorem Po.h1 (h : Po n c) {i : Nat} (hi : i < n) : 1 ≤ hgt n c i := by unfold hgt; rw [h.chn_eq hi]; simp
theorem Po.h2 (h : Po n c) {i j : Nat} (hi : i < n) (hb : (c i).testBit j = true) : hgt n c j + 1 ≤ hgt n c i := by
  have := (best_spec c (chn n c) i n).1 j (h.lt i hi j hb) hb
  unfold hgt
  rw [h.chn_eq hi, List.length_cons]; omega
theorem Po.h3 (h : Po n c) {i : Nat} (hi : i < n) : hgt n c i = 1 ∨ ∃ j, j < n ∧ (c i).testBit j = true ∧ hgt n c i = hgt n c j + 1 := by
  rcases (best_spec c (chn n c) i n).2 with e | ⟨j, hj, hb, e, _⟩
  · left; unfold hgt; rw [h.chn_eq hi, e]; rfl
  · right; refine ⟨j, hj, hb, ?_⟩
    unfold hgt; rw [h.chn_eq hi, e]; rfl
theorem Po.h_le_rk (h : Po n c) : ∀ r i, i < n → rkF n c i ≤ r → hgt n c i ≤ rkF n c i + 1 := by
  intro r
  induction r with
  | zero =>
    intro i hi hr
    rcases h.h3 hi with e | ⟨j, _, hb, _⟩
    · omega
    · have := h.rk_lt hi hb; omega
  | succ r ih =>
    intro i hi hr
    rcases h.h3 hi with e | ⟨j, hj, hb, e⟩
    · omega
    · have := h.rk_lt hi hb
      have := ih j hj (by omega)
      omega
theorem Po.rk_lt_n (h : Po n c) {i : Nat} (hi : i < n) : rkF n c i < n := by
  have : (List.range n).countP (fun j => (c i).testBit j) < (List.range n).countP (fun _ => true) := countP_lt' (by simp) ⟨i, by simpa using hi, rfl, h.irr i hi⟩
  simpa [rkF] using this
theorem Po.hn (h : Po n c) {i : Nat} (hi : i < n) : hgt n c i ≤ n := by
  have := h.h_le_rk n i hi (rk_le i)
  have := h.rk_lt_n hi
  omega
/-! the longest chain, of all and least -/
end
end Go.Proofs.YtjdckepbihcgfaaGreatDoor
