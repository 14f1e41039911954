/- Lemmas for the walks (Ol4, Ol5, Ol7, Ol9, OlA, OlC, OlD). No condition. -/
import Derived.Test.YtjdckepbihcgfaaGreatDoorG19
import Derived.Test.YtjdckepbihcgfaaGreatDoorG04
import Derived.Test.YtjdckepbihcgfaaGreatDoorG06
import Derived.Test.YtjdckepbihcgfaaGreatDoorG09
set_option linter.unusedSimpArgs false
set_option linter.unusedVariables false
set_option linter.unusedSectionVars false
set_option linter.unnecessarySimpa false
namespace Go.Proofs.YtjdckepbihcgfaaGreatDoor
open Go.RowKit

/-! a table of bytes that is written out -/
section
variable {P : Program} {C : Ctx} {E : Slots} {S : List Ent} {ty ty2 ty3 t a b : Nat} {x y : Operand}
theorem QS_indexTab (f : Nat → Nat) {s : ByteArray} {k : IntKind} (hx : evo E x = some (.string s)) (hy : evo E y = some (.int k (a : Nat))) (ht : P.underlying t = some .string) (hf : ∀ n, n < 256 → (s[n]?).map (·.toNat) = some (f n)) (ha : a < 256) : QS P C E S (.index t x y) ty (.int .u8 (f a : Nat)) :=
  QS.of (fun _ w he _ => by
    obtain ⟨b, hb, hb2⟩ := Option.map_eq_some_iff.1 (hf a ha)
    have h0 : (0 : Int) ≤ (a : Int) := by omega
    have hi : (Instr.index t (.string s) (.int k (a : Nat))).run P w = .ok (.int .u8 (f a : Nat)) w := by
      simp only [Instr.index, asIntOf, Sem.run_bind, Sem.run_pure, Result.andThen_ok, run_underlying ht, if_pos h0, Int.toNat_natCast, hb]
      rw [hb2]
    simp [execOp, he.evo hx, he.evo hy, hi])
theorem QS_add8 (hx : evo E x = some (.int .u8 (a : Nat))) (hy : evo E y = some (.int .u8 (b : Nat))) (h : a + b < 256) : QS P C E S (.binOp .add ty2 x y ty3) ty (.int .u8 ((a + b : Nat) : Int)) :=
  QS.of (fun _ w he _ => binInt he hx hy _ (by
    have : IntKind.u8.wrap ((a : Int) + (b : Int)) = (a : Int) + (b : Int) := IntWalk.u8_in _ ⟨by omega, by omega⟩
    simp [binOp, Op.intArith, this]))
end
def popT (n : Nat) : Nat := ((List.range 8).filter fun i => n.testBit i).length
theorem popT_le (n : Nat) : popT n ≤ 8 := by
  have := List.length_filter_le (fun i => n.testBit i) (List.range 8)
  simpa [popT] using this
theorem pop_items (s : Nat) (hs : s < 4096) : popT (s >>> 8) + popT (s &&& 255) = (itemsL s).length := by
  have e1 : popT (s >>> 8) = ((List.range 8).filter fun i => s.testBit (8 + i)).length := by
    unfold popT; simp only [Nat.testBit_shiftRight]
  have e2 : popT (s &&& 255) = ((List.range 8).filter fun i => s.testBit i).length := by
    unfold popT
    congr 1
    apply List.filter_congr
    intro i hi
    rw [List.mem_range] at hi
    rw [Nat.testBit_and, show 255 = 2 ^ 8 - 1 by rfl, Nat.testBit_two_pow_sub_one]
    simp [hi]
  have hz : ∀ i, 12 ≤ i → s.testBit i = false := fun i hi => Nat.testBit_lt_two_pow (Nat.lt_of_lt_of_le hs (by rw [show 4096 = 2 ^ 12 by rfl]; exact Nat.pow_le_pow_right (by decide) hi))
  rw [e1, e2, itemsL, ← List.countP_eq_length_filter, ← List.countP_eq_length_filter, ← List.countP_eq_length_filter, show List.range 8 = [0, 1, 2, 3, 4, 5, 6, 7] from rfl, show List.range 12 = [0, 1, 2, 3, 4, 5, 6, 7, 8, 9, 10, 11] from rfl]
  simp only [List.countP_cons, List.countP_nil, Nat.reduceAdd, hz 12 (by omega), hz 13 (by omega), hz 14 (by omega), hz 15 (by omega), Bool.false_eq_true, if_false]
  omega
set_option maxRecDepth 100000 in
set_option maxHeartbeats 1000000 in
theorem ones_any (s : Nat) (hs : s < 4096) (w : World) : Calls Tryz.prog 97 #[.int .u16 s] w fun e w' => e = .returned (.int .i64 ((itemsL s).length : Nat)) ∧ Below w.heap.size w w' := by
  have h1 : s >>> 8 < 256 := by rw [Nat.shiftRight_eq_div_pow]; omega
  have h2 : s &&& 255 < 256 := Nat.and_lt_two_pow (n := 8) _ (by omega)
  have h3 := popT_le (s >>> 8)
  have h4 := popT_le (s &&& 255)
  have hcv : ((popT (s >>> 8) + popT (s &&& 255) : Nat) : Int) ≤ 9223372036854775807 := by omega
  have h5 : popT (s >>> 8) + popT (s &&& 255) < 256 := by omega
  rw [← pop_items s hs]
  refine calls_T (S := []) [] Tryz.func97 rfl Tryz.ntmps97 (by simp) (Mem.nil _) ?_
  repeat' (first | ((first | with_reducible (first | apply TL_q | apply TD_q0 | apply TD_q1 | apply TD_q2 | apply TD_q3) | ((with_reducible (first | apply TD_q0y | apply TD_q1y)); exact rfl; exact rfl; (with_reducible exact rfl))); (first | ((with_reducible apply QS_add8); exact rfl; exact rfl; (first | assumption | omega)) | ((with_reducible apply QS_indexTab popT); exact rfl; exact rfl; exact Tryz.underlying9; (decide +kernel); (first | assumption | omega)) | exact QS.auto | ((with_reducible apply QS_convert); exact rfl; (exact Int.le_trans (by decide) (Int.natCast_nonneg _)); exact hcv)); exact rfl) | refine GG ?_ | (refine GE ?_; (first | rintro _ _ ⟨rfl, rfl⟩ | rintro _ _ ⟨g, rfl, rfl⟩ | rintro _ _ ⟨A', c', rfl, rfl⟩); (try refine ⟨SUB, ?_⟩)) | (refine GO2 ?_ ?_ <;> (refine Zs ?_; intro h; try exact Zx)) | refine GOF ?_ ?_ | ((with_reducible apply T_draw (id := 1) 1000 (OT.seq [(0, 0), (0, 1), (0, 2), (0, 3), (0, 4), (0, 5), (0, 6), (0, 7), (0, 8)] .nil)); kernel_rfl; exact rfl; kernel_rfl; (repeat (first | with_reducible exact Blind.body | with_reducible apply Blind.seq | with_reducible apply Blind.block))) | fail)
  (refine At_ret Tryz.results97 rfl (fun w' hw => ?_))
  exact ⟨rfl, hw.below0 rfl⟩
/-! comparisons -/
def cmpI (x y : Int) : Int := if x < y then -1 else if y < x then 1 else 0
def cmpL : List Nat → List Nat → Int
  | [], [] => 0
  | [], _ :: _ => -1
  | _ :: _, [] => 1
  | x :: xs, y :: ys => if cmpI x y = 0 then cmpL xs ys else cmpI x y
theorem cmpL_lex : ∀ {a b : List Nat}, a.length = b.length → (decide (cmpL a b < 0) = !lexB b a)
  | [], [], _ => rfl
  | [], _ :: _, h => by simp at h
  | _ :: _, [], h => by simp at h
  | x :: xs, y :: ys, h => by
    have ih := cmpL_lex (a := xs) (b := ys) (by simpa using h)
    rcases Nat.lt_trichotomy x y with h1 | h1 | h1
    · have e : cmpI x y = -1 := by simp [cmpI]; omega
      have e1 : decide (y < x) = false := by simp; omega
      have e2 : decide (y = x) = false := by simp; omega
      simp [cmpL, lexB, e, e1, e2]
    · subst h1
      have e : cmpI x x = 0 := by simp [cmpI]
      simp only [cmpL, lexB, e, if_true, ih, Nat.lt_irrefl, decide_false, decide_true, Bool.true_and, Bool.false_or]
    · have e : cmpI x y = 1 := by simp [cmpI]; omega
      have e1 : decide (y < x) = true := by simp; omega
      simp [cmpL, lexB, e, e1]
set_option maxRecDepth 100000 in
theorem dNaN_any (x : Int) (w : World) : Calls Tryz.prog 173 #[.int .i64 x] w fun e w' => e = .returned (.bool false) ∧ Below w.heap.size w w' := by
  refine calls_T (S := []) [] Tryz.func173 rfl Tryz.ntmps173 (by simp) (Mem.nil _) ?_
  repeat' (first | ((first | with_reducible (first | apply TL_q | apply TD_q0 | apply TD_q1 | apply TD_q2 | apply TD_q3) | ((with_reducible (first | apply TD_q0y | apply TD_q1y)); exact rfl; exact rfl; (with_reducible exact rfl))); (first | ((with_reducible apply QS_add8); exact rfl; exact rfl; (first | assumption | omega)) | ((with_reducible apply QS_indexTab popT); exact rfl; exact rfl; exact Tryz.underlying9; (decide +kernel); (first | assumption | omega)) | exact QS.auto | ((with_reducible apply QS_convert); exact rfl; (exact Int.le_trans (by decide) (Int.natCast_nonneg _)); exact hcv)); exact rfl) | refine GO ?_ | (refine GOE ?_; (first | rintro _ _ ⟨rfl, rfl⟩ | rintro _ _ ⟨g, rfl, rfl⟩ | rintro _ _ ⟨A', c', rfl, rfl⟩)) | (refine GO2 ?_ ?_ <;> (refine Zs ?_; intro h; try exact Zx)) | fail)
  (refine At_ret Tryz.results173 rfl (fun w' hw => ?_))
  exact ⟨by simp [resVal], hw.below0 rfl⟩
set_option maxRecDepth 100000 in
theorem cmpI_any (x y : Int) (w : World) : Calls Tryz.prog 140 #[.int .i64 x, .int .i64 y] w fun e w' => e = .returned (.int .i64 (cmpI x y)) ∧ Below w.heap.size w w' := by
  refine calls_T (S := []) [] Tryz.func140 rfl Tryz.ntmps140 (by simp) (Mem.nil _) ?_
  repeat' (first | ((first | with_reducible (first | apply TL_q | apply TD_q0 | apply TD_q1 | apply TD_q2 | apply TD_q3) | ((with_reducible (first | apply TD_q0y | apply TD_q1y)); exact rfl; exact rfl; (with_reducible exact rfl))); (first | ((with_reducible apply QS_add8); exact rfl; exact rfl; (first | assumption | omega)) | ((with_reducible apply QS_indexTab popT); exact rfl; exact rfl; exact Tryz.underlying9; (decide +kernel); (first | assumption | omega)) | exact QS.auto | ((with_reducible apply QS_convert); exact rfl; (exact Int.le_trans (by decide) (Int.natCast_nonneg _)); exact hcv)); exact rfl) | refine GO ?_ | (refine GOE ?_; (first | rintro _ _ ⟨rfl, rfl⟩ | rintro _ _ ⟨g, rfl, rfl⟩ | rintro _ _ ⟨A', c', rfl, rfl⟩)) | (refine GO2 ?_ ?_ <;> (refine Zs ?_; intro h; try exact Zx)) | ((with_reducible (first | apply TD_e2z | apply TD_e3z | apply TL_e | apply TD_e2 | apply TD_e3)); ((with_reducible apply ES_callV (f := 173)); exact rfl; (intro w hw; exact dNaN_any _ w); exact rfl); (first | exact rfl | exact ⟨rfl, rfl, rfl⟩); (rintro _ _ ⟨rfl, rfl⟩); (try refine ⟨SUB, ?_⟩)) | fail)
  all_goals (refine At_ret Tryz.results140 rfl (fun w' hw => ?_))
  all_goals refine ⟨?_, hw.below0 rfl⟩
  · have h1 : x < y := by assumption
    rw [cmpI, if_pos h1]; rfl
  · have h1 : y < x := by assumption
    rw [cmpI, if_neg (by omega), if_pos h1]; rfl
  · have h1 : y ≤ x := by assumption
    have h2 : x ≤ y := by assumption
    rw [cmpI, if_neg (by omega), if_neg (by omega)]; rfl
section
variable (A B : Option Addr) (c d : Nat) (l m : List Nat) (w : World) (hl : l.length ≤ 12) (hm : m.length ≤ 12) (hA : RdE natEnc 1 w A l) (hB : RdE natEnc 1 w B m)
include hl hm hA hB
set_option maxRecDepth 100000 in
set_option maxHeartbeats 1000000 in
theorem cmpL_any : Calls Tryz.prog 100 #[.slice A l.length c, .slice B m.length d] w fun e w' => e = .returned (.int .i64 (cmpL l m)) ∧ Below w.heap.size w w' := by
  refine calls_T (S := []) [] Tryz.func100 rfl Tryz.ntmps100 (by simp) (Mem.nil _) ?_
  repeat' (first | ((first | with_reducible (first | apply TL_q | apply TD_q0 | apply TD_q1 | apply TD_q2 | apply TD_q3) | ((with_reducible (first | apply TD_q0y | apply TD_q1y)); exact rfl; exact rfl; (with_reducible exact rfl))); (first | ((with_reducible apply QS_add8); exact rfl; exact rfl; (first | assumption | omega)) | ((with_reducible apply QS_indexTab popT); exact rfl; exact rfl; exact Tryz.underlying9; (decide +kernel); (first | assumption | omega)) | exact QS.auto | ((with_reducible apply QS_convert); exact rfl; (exact Int.le_trans (by decide) (Int.natCast_nonneg _)); exact hcv)); exact rfl) | refine GO ?_ | (refine GOE ?_; (first | rintro _ _ ⟨rfl, rfl⟩ | rintro _ _ ⟨g, rfl, rfl⟩ | rintro _ _ ⟨A', c', rfl, rfl⟩)) | (refine GO2 ?_ ?_ <;> (refine Zs ?_; intro h; try exact Zx)) | fail)
  refine T_loop (X := Nat) (fun k => [(11, .int .i64 (k : Nat)), (10, .int .i64 l.length), (9, .slice A l.length c), (1, .slice B m.length d), (0, .slice A l.length c)]) (fun _ => [])
    (fun k => k ≤ l.length ∧ k ≤ m.length ∧ cmpL (l.drop k) (m.drop k) = cmpL l m) (fun k => l.length - k) 0 ⟨by omega, by omega, by simp⟩ Ze (by exact SUBS) ?_
  rintro k ⟨hk, hkm, hc⟩
  by_cases hlt : k < l.length
  · have hd : l.drop k = l[k] :: l.drop (k + 1) := List.drop_eq_getElem_cons hlt
    obtain ⟨b, o, rfl, _⟩ := RdE.open hA (by omega)
    by_cases hmt : k < m.length
    · have hd2 : m.drop k = m[k] :: m.drop (k + 1) := List.drop_eq_getElem_cons hmt
      obtain ⟨b2, o2, rfl, _⟩ := RdE.open hB (by omega)
      rw [hd, hd2, cmpL] at hc
      repeat' (first | ((first | with_reducible (first | apply TL_q | apply TD_q0 | apply TD_q1 | apply TD_q2 | apply TD_q3) | ((with_reducible (first | apply TD_q0y | apply TD_q1y)); exact rfl; exact rfl; (with_reducible exact rfl))); (first | ((with_reducible apply QS_add8); exact rfl; exact rfl; (first | assumption | omega)) | ((with_reducible apply QS_indexTab popT); exact rfl; exact rfl; exact Tryz.underlying9; (decide +kernel); (first | assumption | omega)) | exact QS.auto | ((with_reducible apply QS_convert); exact rfl; (exact Int.le_trans (by decide) (Int.natCast_nonneg _)); exact hcv)); exact rfl) | refine GO ?_ | (refine GOE ?_; (first | rintro _ _ ⟨rfl, rfl⟩ | rintro _ _ ⟨g, rfl, rfl⟩ | rintro _ _ ⟨A', c', rfl, rfl⟩)) | (refine GO2 ?_ ?_ <;> (refine Zs ?_; intro h; try exact Zx)) | ((with_reducible (first | apply TD_e2z | apply TD_e3z | apply TL_e | apply TD_e2 | apply TD_e3)); ((with_reducible apply ES_callV (f := 140)); exact rfl; (intro w hw; exact cmpI_any _ _ w); exact rfl); (first | exact rfl | exact ⟨rfl, rfl, rfl⟩); (rintro _ _ ⟨rfl, rfl⟩); (try refine ⟨SUB, ?_⟩)) | fail)
      · have h1 : ¬ cmpI l[k] m[k] = 0 := by assumption
        (refine At_ret Tryz.results100 rfl (fun w' hw => ?_))
        rw [if_neg h1] at hc
        exact ⟨by rw [← hc]; rfl, hw.below0 rfl⟩
      · have h1 : cmpI l[k] m[k] = 0 := by assumption
        rw [if_pos h1] at hc
        exact At_rounds (k + 1) ⟨hlt, hmt, hc⟩ (by omega) Ze (by exact SUBS)
    · have hmn : m.drop k = [] := List.drop_eq_nil_of_le (by omega)
      rw [hd, hmn, cmpL] at hc
      repeat' (first | ((first | with_reducible (first | apply TL_q | apply TD_q0 | apply TD_q1 | apply TD_q2 | apply TD_q3) | ((with_reducible (first | apply TD_q0y | apply TD_q1y)); exact rfl; exact rfl; (with_reducible exact rfl))); (first | ((with_reducible apply QS_add8); exact rfl; exact rfl; (first | assumption | omega)) | ((with_reducible apply QS_indexTab popT); exact rfl; exact rfl; exact Tryz.underlying9; (decide +kernel); (first | assumption | omega)) | exact QS.auto | ((with_reducible apply QS_convert); exact rfl; (exact Int.le_trans (by decide) (Int.natCast_nonneg _)); exact hcv)); exact rfl) | refine GO ?_ | (refine GOE ?_; (first | rintro _ _ ⟨rfl, rfl⟩ | rintro _ _ ⟨g, rfl, rfl⟩ | rintro _ _ ⟨A', c', rfl, rfl⟩)) | (refine GO2 ?_ ?_ <;> (refine Zs ?_; intro h; try exact Zx)) | fail)
      (refine At_ret Tryz.results100 rfl (fun w' hw => ?_))
      exact ⟨by rw [← hc]; rfl, hw.below0 rfl⟩
  · obtain rfl : k = l.length := by omega
    rw [List.drop_length] at hc
    by_cases hmt : l.length < m.length
    · have hd2 : m.drop l.length = m[l.length] :: m.drop (l.length + 1) := List.drop_eq_getElem_cons hmt
      rw [hd2, cmpL] at hc
      repeat' (first | ((first | with_reducible (first | apply TL_q | apply TD_q0 | apply TD_q1 | apply TD_q2 | apply TD_q3) | ((with_reducible (first | apply TD_q0y | apply TD_q1y)); exact rfl; exact rfl; (with_reducible exact rfl))); (first | ((with_reducible apply QS_add8); exact rfl; exact rfl; (first | assumption | omega)) | ((with_reducible apply QS_indexTab popT); exact rfl; exact rfl; exact Tryz.underlying9; (decide +kernel); (first | assumption | omega)) | exact QS.auto | ((with_reducible apply QS_convert); exact rfl; (exact Int.le_trans (by decide) (Int.natCast_nonneg _)); exact hcv)); exact rfl) | refine GO ?_ | (refine GOE ?_; (first | rintro _ _ ⟨rfl, rfl⟩ | rintro _ _ ⟨g, rfl, rfl⟩ | rintro _ _ ⟨A', c', rfl, rfl⟩)) | (refine GO2 ?_ ?_ <;> (refine Zs ?_; intro h; try exact Zx)) | fail)
      (refine At_ret Tryz.results100 rfl (fun w' hw => ?_))
      exact ⟨by rw [← hc]; rfl, hw.below0 rfl⟩
    · rw [List.drop_eq_nil_of_le (by omega), cmpL] at hc
      repeat' (first | ((first | with_reducible (first | apply TL_q | apply TD_q0 | apply TD_q1 | apply TD_q2 | apply TD_q3) | ((with_reducible (first | apply TD_q0y | apply TD_q1y)); exact rfl; exact rfl; (with_reducible exact rfl))); (first | ((with_reducible apply QS_add8); exact rfl; exact rfl; (first | assumption | omega)) | ((with_reducible apply QS_indexTab popT); exact rfl; exact rfl; exact Tryz.underlying9; (decide +kernel); (first | assumption | omega)) | exact QS.auto | ((with_reducible apply QS_convert); exact rfl; (exact Int.le_trans (by decide) (Int.natCast_nonneg _)); exact hcv)); exact rfl) | refine GO ?_ | (refine GOE ?_; (first | rintro _ _ ⟨rfl, rfl⟩ | rintro _ _ ⟨g, rfl, rfl⟩ | rintro _ _ ⟨A', c', rfl, rfl⟩)) | (refine GO2 ?_ ?_ <;> (refine Zs ?_; intro h; try exact Zx)) | fail)
      (refine At_ret Tryz.results100 rfl (fun w' hw => ?_))
      exact ⟨by rw [← hc]; rfl, hw.below0 rfl⟩
end
/-! sets and their items -/
theorem bit_one (m i : Nat) : ((((m >>> i) &&& 1 : Nat) : Int) = 1) ↔ m.testBit i = true := by
  have h0 := bit_zero m i
  have h1 : (m >>> i) &&& 1 < 2 := Nat.and_lt_two_pow (n := 1) _ (by decide)
  cases hb : m.testBit i with
  | false =>
    have := h0.2 hb
    exact ⟨fun h => by omega, fun h => by cases h⟩
  | true =>
    have : ¬ (((m >>> i) &&& 1 : Nat) : Int) = 0 := fun e => by rw [h0.1 e] at hb; cases hb
    exact ⟨fun _ => rfl, fun _ => by omega⟩
def itemsTo (s k : Nat) : List Nat := (List.range k).filter fun i => s.testBit i
theorem itemsTo_succ (s k : Nat) : itemsTo s (k + 1) = if s.testBit k = true then itemsTo s k ++ [k] else itemsTo s k := by
  unfold itemsTo
  rw [List.range_succ, List.filter_append, List.filter_cons, List.filter_nil]
  split <;> simp
theorem itemsTo_le (s k : Nat) : (itemsTo s k).length ≤ k := by
  have := List.length_filter_le (fun i => s.testBit i) (List.range k)
  simpa [itemsTo] using this
set_option maxRecDepth 100000 in
theorem items_any (s : Nat) (hs : s < 65536) (w : World) : Calls Tryz.prog 99 #[.int .u16 s] w fun e w' => ∃ A c, e = .returned (.slice A (itemsL s).length c) ∧ Own natEnc 1 3 w' w.heap.size (.slice A (itemsL s).length c) (itemsL s) ∧ Below w.heap.size w w' := by
  refine calls_T (S := []) [] Tryz.func99 rfl Tryz.ntmps99 (by simp) (Mem.nil _) ?_
  repeat' (first | ((first | with_reducible (first | apply TL_q | apply TD_q0 | apply TD_q1 | apply TD_q2 | apply TD_q3) | ((with_reducible (first | apply TD_q0y | apply TD_q1y)); exact rfl; exact rfl; (with_reducible exact rfl))); (first | ((with_reducible apply QS_add8); exact rfl; exact rfl; (first | assumption | omega)) | ((with_reducible apply QS_indexTab popT); exact rfl; exact rfl; exact Tryz.underlying9; (decide +kernel); (first | assumption | omega)) | exact QS.auto | ((with_reducible apply QS_convert); exact rfl; (exact Int.le_trans (by decide) (Int.natCast_nonneg _)); exact hcv)); exact rfl) | refine GO ?_ | (refine GOE ?_; (first | rintro _ _ ⟨rfl, rfl⟩ | rintro _ _ ⟨g, rfl, rfl⟩ | rintro _ _ ⟨A', c', rfl, rfl⟩)) | (refine GO2 ?_ ?_ <;> (refine Zs ?_; intro h; try exact Zx)) | fail)
  refine T_mem (S' := [entOwn natEnc 1 3 none 0 ([] : List Nat)]) (fun w hw => hw.nilOwn _ _ _) ?_
  refine T_loop (X := Nat × Option Addr × Nat) (fun x => [(5, .int .i64 (x.1 : Nat)), (3, .slice x.2.1 (itemsTo s x.1).length x.2.2), (0, .int .u16 s)]) (fun x => [entOwn natEnc 1 3 x.2.1 x.2.2 (itemsTo s x.1)])
    (fun x => x.1 ≤ 12) (fun x => 12 - x.1) (0, none, 0) (by simp) Ze (by exact SUBS) ?_
  rintro ⟨k, A, c⟩ hk
  dsimp only at hk ⊢
  have hle := itemsTo_le s k
  by_cases hlt : k < 12
  · have hsu := itemsTo_succ s k
    have hb := bit_one s k
    repeat' (first | ((first | with_reducible (first | apply TL_q | apply TD_q0 | apply TD_q1 | apply TD_q2 | apply TD_q3) | ((with_reducible (first | apply TD_q0y | apply TD_q1y)); exact rfl; exact rfl; (with_reducible exact rfl))); (first | ((with_reducible apply QS_add8); exact rfl; exact rfl; (first | assumption | omega)) | ((with_reducible apply QS_indexTab popT); exact rfl; exact rfl; exact Tryz.underlying9; (decide +kernel); (first | assumption | omega)) | exact QS.auto | ((with_reducible apply QS_convert); exact rfl; (exact Int.le_trans (by decide) (Int.natCast_nonneg _)); exact hcv)); exact rfl) | refine GO ?_ | (refine GOE ?_; (first | rintro _ _ ⟨rfl, rfl⟩ | rintro _ _ ⟨g, rfl, rfl⟩ | rintro _ _ ⟨A', c', rfl, rfl⟩)) | (refine GO2 ?_ ?_ <;> (refine Zs ?_; intro h; try exact Zx)) | ((with_reducible (first | apply TD_e2z | apply TD_e3z | apply TL_e | apply TD_e2 | apply TD_e3)); ((with_reducible apply ES_append1 (enc := natEnc) (xx := k)); exact rfl; exact rfl; (repeat (first | with_reducible exact List.mem_cons_self | with_reducible apply List.mem_cons_of_mem)); exact rfl; exact fun _ => rfl; exact fun _ => rfl; (intro A' c'; first | ((repeat (first | with_reducible exact Upd.here _ _ _ | with_reducible apply Upd.there)); done) | (repeat (first | exact Upd.here _ _ _ | apply Upd.there))); (omega); decide; exact rfl); (first | exact rfl | exact ⟨rfl, rfl, rfl⟩); (rintro _ _ ⟨A', c', rfl, rfl⟩); (try refine ⟨SUB, ?_⟩)) | fail)
    · have h1 : s.testBit k = true := hb.1 (by assumption)
      rw [if_pos h1] at hsu
      apply At_rounds (k + 1, _, _)
      case hE => rw [hsu]; exact Ze
      case hS => rw [hsu]; exact SUBS
      case hμ => (try dsimp only); omega
      case hp => exact hlt
    · have h1 : ¬ s.testBit k = true := fun h => absurd (hb.2 h) (by assumption)
      rw [if_neg h1] at hsu
      apply At_rounds (k + 1, _, _)
      case hE => rw [hsu]; exact Ze
      case hS => rw [hsu]; exact SUBS
      case hμ => (try dsimp only); omega
      case hp => exact hlt
  · obtain rfl : k = 12 := by omega
    repeat' (first | ((first | with_reducible (first | apply TL_q | apply TD_q0 | apply TD_q1 | apply TD_q2 | apply TD_q3) | ((with_reducible (first | apply TD_q0y | apply TD_q1y)); exact rfl; exact rfl; (with_reducible exact rfl))); (first | ((with_reducible apply QS_add8); exact rfl; exact rfl; (first | assumption | omega)) | ((with_reducible apply QS_indexTab popT); exact rfl; exact rfl; exact Tryz.underlying9; (decide +kernel); (first | assumption | omega)) | exact QS.auto | ((with_reducible apply QS_convert); exact rfl; (exact Int.le_trans (by decide) (Int.natCast_nonneg _)); exact hcv)); exact rfl) | refine GO ?_ | (refine GOE ?_; (first | rintro _ _ ⟨rfl, rfl⟩ | rintro _ _ ⟨g, rfl, rfl⟩ | rintro _ _ ⟨A', c', rfl, rfl⟩)) | (refine GO2 ?_ ?_ <;> (refine Zs ?_; intro h; try exact Zx)) | fail)
    (refine At_ret Tryz.results99 rfl (fun w' hw => ?_))
    exact ⟨A, c, rfl, hw.ownOut rfl Zm, hw.below0 rfl⟩
end Go.Proofs.YtjdckepbihcgfaaGreatDoor

namespace Go.Proofs.YtjdckepbihcgfaaGreatDoor
open Go.RowKit

section
variable (n : Nat) (f : Nat → Nat) (s : Nat) (w : World) (hf : ∀ i, i < 12 → f i < 65536) (hs : s < 4096)
include hf hs
set_option maxRecDepth 100000 in
set_option maxHeartbeats 1000000 in
theorem apart_any : Calls Tryz.prog 98 #[.agg (relCells n f), .int .u16 s] w fun e w' => e = .returned (.bool (apartB f s)) ∧ Below w.heap.size w w' := by
  have hi := fun w => items_any s (by omega) w
  have hlt : ∀ x ∈ itemsL s, x < 12 := fun x hx => ((items_mem s x).1 hx).1
  have hle : (itemsL s).length ≤ 12 := itemsTo_le s 12
  unfold apartB
  generalize itemsL s = l at *
  have hs16 : s < 65536 := by omega
  refine calls_T (S := []) [] Tryz.func98 rfl Tryz.ntmps98 (by simp) (Mem.nil _) ?_
  repeat' (first | refine GO ?_ | (refine GOE ?_; (first | rintro _ _ ⟨rfl, rfl⟩ | rintro _ _ ⟨g, rfl, rfl⟩ | rintro _ _ ⟨A', c', rfl, rfl⟩)) | (refine GO2 ?_ ?_ <;> (refine Zs ?_; intro h; try exact Zx)) | ((with_reducible (first | apply TD_e2z | apply TD_e3z | apply TL_e | apply TD_e2 | apply TD_e3)); ((with_reducible apply ES_callOwn (f := 99)); exact rfl; (intro w hw; exact hi w); exact rfl); (first | exact rfl | exact ⟨rfl, rfl, rfl⟩); (rintro _ _ ⟨A, c, rfl, rfl⟩); (try refine ⟨SUB, ?_⟩)) | fail)
  obtain ⟨gr, rfl⟩ : ∃ x, x = g := ⟨_, rfl⟩
  refine T_loop (X := Nat) (fun k => [(10, .int .i64 (k : Nat)), (9, .int .i64 l.length), (8, .slice A l.length c), (2, .pointer (some ⟨gr, 0, none⟩)), (1, .int .u16 s)]) (fun _ => [entOwn natEnc 1 3 A c l, entBlk gr 43 (relCells n f)])
    (fun k => k ≤ l.length ∧ (l.take k).all (fun i => (f i &&& s) == 0) = true) (fun k => l.length - k) 0 ⟨by omega, by simp⟩ Ze (by exact SUBS) ?_
  rintro k ⟨hk, hall⟩
  by_cases hkl : k < l.length
  · have hx := hlt l[k] (List.getElem_mem hkl)
    have hfx := hf l[k] hx
    refine T_own (ls := l) Zm (by omega) ?_
    rintro gA rfl
    repeat' (first | refine GO ?_ | (refine GOE ?_; (first | rintro _ _ ⟨rfl, rfl⟩ | rintro _ _ ⟨g, rfl, rfl⟩ | rintro _ _ ⟨A', c', rfl, rfl⟩)) | (refine GO2 ?_ ?_ <;> (refine Zs ?_; intro h; try exact Zx)) | fail)
    · (refine At_ret Tryz.results98 rfl (fun w' hw => ?_))
      have h1 : ¬ ((f l[k] &&& s : Nat) : Int) = 0 := by assumption
      have hb : (l.all fun i => (f i &&& s) == 0) = false := by
        rw [List.all_eq_false]
        refine ⟨l[k], List.getElem_mem hkl, ?_⟩
        rw [beq_iff_eq]; omega
      exact ⟨by rw [hb]; rfl, hw.below0 rfl⟩
    · have h1 : ((f l[k] &&& s : Nat) : Int) = 0 := by assumption
      refine At_rounds (k + 1) ⟨hkl, ?_⟩ (by omega) Ze (by exact SUBS)
      rw [all_take_succ hkl, hall, Bool.true_and, beq_iff_eq]; omega
  · obtain rfl : k = l.length := by omega
    rw [List.take_length] at hall
    repeat' (first | refine GO ?_ | (refine GOE ?_; (first | rintro _ _ ⟨rfl, rfl⟩ | rintro _ _ ⟨g, rfl, rfl⟩ | rintro _ _ ⟨A', c', rfl, rfl⟩)) | (refine GO2 ?_ ?_ <;> (refine Zs ?_; intro h; try exact Zx)) | fail)
    (refine At_ret Tryz.results98 rfl (fun w' hw => ?_))
    exact ⟨by rw [hall]; rfl, hw.below0 rfl⟩
end
section
variable (n : Nat) (f : Nat → Nat) (w : World) (hn : n ≤ 12) (hf : ∀ i, i < 12 → f i < 65536)
include hn hf
set_option maxRecDepth 100000 in
set_option maxHeartbeats 2000000 in
theorem widest_any : Calls Tryz.prog 52 #[.agg (relCells n f)] w fun e w' => ∃ A c, e = .returned (.slice A (wideTo f (2 ^ n)).length c) ∧ Own natEnc 1 3 w' w.heap.size (.slice A (wideTo f (2 ^ n)).length c) (wideTo f (2 ^ n)) ∧ Below w.heap.size w w' := by
  have hp : 2 ^ n ≤ 4096 := by rw [show 4096 = 2 ^ 12 by rfl]; exact Nat.pow_le_pow_right (by decide) hn
  have hcast : ((2 ^ n : Nat) : Int) ≤ 4096 := by omega
  obtain ⟨N, hN⟩ : ∃ N, 2 ^ n = N := ⟨_, rfl⟩
  refine calls_T (S := []) [] Tryz.func52 rfl Tryz.ntmps52 (by simp) (Mem.nil _) ?_
  repeat' (first | refine GO ?_ | (refine GOE ?_; (first | rintro _ _ ⟨rfl, rfl⟩ | rintro _ _ ⟨g, rfl, rfl⟩ | rintro _ _ ⟨A', c', rfl, rfl⟩)) | (refine GO2 ?_ ?_ <;> (refine Zs ?_; intro h; try exact Zx)) | fail)
  obtain ⟨gr, rfl⟩ : ∃ x, x = g := ⟨_, rfl⟩
  rw [hN] at hp hcast ⊢
  refine T_mem (S' := [entOwn natEnc 1 3 none 0 ([] : List Nat), entBlk gr 43 (relCells n f)]) (fun w hw => hw.nilOwn _ _ _) ?_
  refine T_loop (X := Nat × List Nat × Option Addr × Nat) (fun x => [(11, .int .i64 (x.1 : Nat)), (10, .int .i64 N), (3, .slice x.2.2.1 x.2.1.length x.2.2.2), (1, .pointer (some ⟨gr, 0, none⟩))]) (fun x => [entOwn natEnc 1 3 x.2.2.1 x.2.2.2 x.2.1, entBlk gr 43 (relCells n f)])
    (fun x => x.1 ≤ N ∧ x.2.1.length ≤ 12 ∧ x.2.1 = wideTo f x.1) (fun x => N - x.1) (0, [], none, 0) ⟨by simp, by simp, rfl⟩ Ze (by exact SUBS) ?_
  rintro ⟨m, best, A, c⟩ ⟨hm, hbl, hbest⟩
  dsimp only at hm hbl hbest ⊢
  by_cases hlt : m < N
  · have hms : m < 4096 := by omega
    have hones := fun w => ones_any m hms w
    have hap := fun w => apart_any n f m w hf hms
    have hit := fun w => items_any m (by omega) w
    have hlen : (itemsL m).length ≤ 12 := itemsTo_le m 12
    have hws : wideTo f (m + 1) = wStepA f best m := by rw [wideTo_succ, hbest]
    unfold wStepA at hws
    generalize itemsL m = l at *
    generalize apartB f m = z at *
    have hcmp := fun A c B d w h1 h2 => cmpL_any A B c d l best w hlen hbl h1 h2
    repeat' (first | refine GO ?_ | (refine GOE ?_; (first | rintro _ _ ⟨rfl, rfl⟩ | rintro _ _ ⟨g, rfl, rfl⟩ | rintro _ _ ⟨A', c', rfl, rfl⟩)) | (refine GO2 ?_ ?_ <;> (refine Zs ?_; intro h; try exact Zx)) | ((with_reducible (first | apply TD_e2z | apply TD_e3z | apply TL_e | apply TD_e2 | apply TD_e3)); ((with_reducible apply ES_callV (f := 97)); exact rfl; (intro w hw; exact hones w); exact rfl); (first | exact rfl | exact ⟨rfl, rfl, rfl⟩); (rintro _ _ ⟨rfl, rfl⟩); (try refine ⟨SUB, ?_⟩)) | ((with_reducible (first | apply TD_e2z | apply TD_e3z | apply TL_e | apply TD_e2 | apply TD_e3)); ((with_reducible apply ES_callV (f := 98)); exact rfl; (intro w hw; exact hap w); exact rfl); (first | exact rfl | exact ⟨rfl, rfl, rfl⟩); (rintro _ _ ⟨rfl, rfl⟩); (try refine ⟨SUB, ?_⟩)) | ((with_reducible (first | apply TD_e2z | apply TD_e3z | apply TL_e | apply TD_e2 | apply TD_e3)); ((with_reducible apply ES_callOwn (f := 99)); exact rfl; (intro w hw; exact hit w); exact rfl); (first | exact rfl | exact ⟨rfl, rfl, rfl⟩); (rintro _ _ ⟨A2, c2, rfl, rfl⟩); (try refine ⟨SUB, ?_⟩)) | ((with_reducible (first | apply TD_e2z | apply TD_e3z | apply TL_e | apply TD_e2 | apply TD_e3)); ((with_reducible apply ES_callV (f := 100)); exact rfl; (intro w hw; exact hcmp _ _ _ _ w (hw.ownRd Zm (fun _ => rfl)) (hw.ownRd Zm (fun _ => rfl))); exact rfl); (first | exact rfl | exact ⟨rfl, rfl, rfl⟩); (rintro _ _ ⟨rfl, rfl⟩); (try refine ⟨SUB, ?_⟩)) | fail)
    · have h1 : l.length < best.length := by omega
      rw [if_pos (.inl h1)] at hws
      exact At_rounds (m + 1, best, A, c) ⟨hlt, hbl, hws.symm⟩ (by (try dsimp only); omega) Ze (by exact SUBS)
    · have h1 : z = false := by assumption
      rw [if_pos (.inr h1)] at hws
      exact At_rounds (m + 1, best, A, c) ⟨hlt, hbl, hws.symm⟩ (by (try dsimp only); omega) Ze (by exact SUBS)
    · have h1 : z = true := by assumption
      rw [if_neg (by rintro (h | h); omega; rw [h1] at h; cases h), if_pos (.inl (by omega))] at hws
      exact At_rounds (m + 1, l, A2, c2) ⟨hlt, hlen, hws.symm⟩ (by (try dsimp only); omega) Ze (by exact SUBS)
    · have h1 : z = true := by assumption
      have h2 := cmpL_lex (a := l) (b := best) (by omega)
      rw [decide_eq_true (show cmpL l best < 0 by assumption)] at h2
      rw [if_neg (by rintro (h | h); omega; rw [h1] at h; cases h), if_pos (.inr (by simpa using h2.symm))] at hws
      exact At_rounds (m + 1, l, A2, c2) ⟨hlt, hlen, hws.symm⟩ (by (try dsimp only); omega) Ze (by exact SUBS)
    · have h1 : z = true := by assumption
      have h2 := cmpL_lex (a := l) (b := best) (by omega)
      have h3 : (0 : Int) ≤ cmpL l best := by assumption
      rw [decide_eq_false (show ¬ cmpL l best < 0 by omega)] at h2
      rw [if_neg (by rintro (h | h); omega; rw [h1] at h; cases h), if_neg (by rintro (h | h); omega; rw [h] at h2; cases h2)] at hws
      exact At_rounds (m + 1, best, A, c) ⟨hlt, hbl, hws.symm⟩ (by (try dsimp only); omega) Ze (by exact SUBS)
  · obtain rfl : m = N := by omega
    repeat' (first | refine GO ?_ | (refine GOE ?_; (first | rintro _ _ ⟨rfl, rfl⟩ | rintro _ _ ⟨g, rfl, rfl⟩ | rintro _ _ ⟨A', c', rfl, rfl⟩)) | (refine GO2 ?_ ?_ <;> (refine Zs ?_; intro h; try exact Zx)) | fail)
    (refine At_ret Tryz.results52 rfl (fun w' hw => ?_))
    rw [← hbest]
    exact ⟨A, c, rfl, hw.ownOut rfl Zm, hw.below0 rfl⟩
end
section
variable (n : Nat) (f : Nat → Nat) (w : World) (hn : n ≤ 12) (hf : ∀ i, i < 12 → f i < 65536) (h0 : chkR n f = 0)
include hn hf h0
set_option maxRecDepth 100000 in
set_option maxHeartbeats 4000000 in
theorem apartL_ok (hc : isCyc n (closedF n f) = false) :
    Calls Tryz.prog 21 #[.agg (relCells n f)] w fun e w' => ∃ A c, e = .returned (.tuple #[.slice A (wideTo (closedF n f) (2 ^ n)).length c, .int .i64 0]) ∧ Own natEnc 1 3 w' w.heap.size (.slice A (wideTo (closedF n f) (2 ^ n)).length c) (wideTo (closedF n f) (2 ^ n)) ∧ Below w.heap.size w w' := by
  have hlt : ∀ i, i < 12 → closedF n f i < 65536 := fun i hi => wOut_lt (B := 16) hf n hn n (by omega) i hi
  have hwd := fun w => widest_any n (closedF n f) w hn hlt
  have hac := fun w => acyclic_ok n f w hn hf h0 hc
  generalize closedF n f = c at *
  generalize wideTo c (2 ^ n) = l at *
  refine calls_T (S := []) [] Tryz.func21 rfl Tryz.ntmps21 (by simp) (Mem.nil _) ?_
  repeat' (first | refine GO ?_ | (refine GOE ?_; (first | rintro _ _ ⟨rfl, rfl⟩ | rintro _ _ ⟨g, rfl, rfl⟩ | rintro _ _ ⟨A', c', rfl, rfl⟩)) | (refine GO2 ?_ ?_ <;> (refine Zs ?_; intro h; try exact Zx)) | ((with_reducible (first | apply TD_e2z | apply TD_e3z | apply TL_e | apply TD_e2 | apply TD_e3)); ((with_reducible apply ES_callV (f := 49)); exact rfl; (intro w hw; exact hac w); exact rfl); (first | exact rfl | exact ⟨rfl, rfl, rfl⟩); (rintro _ _ ⟨rfl, rfl⟩); (try refine ⟨SUB, ?_⟩)) | ((with_reducible (first | apply TD_e2z | apply TD_e3z | apply TL_e | apply TD_e2 | apply TD_e3)); ((with_reducible apply ES_callOwn (f := 52)); exact rfl; (intro w hw; exact hwd w); exact rfl); (first | exact rfl | exact ⟨rfl, rfl, rfl⟩); (rintro _ _ ⟨A, c2, rfl, rfl⟩); (try refine ⟨SUB, ?_⟩)) | fail)
  (refine At_ret Tryz.results21 rfl (fun w' hw => ?_))
  exact ⟨A, c2, rfl, hw.ownOut rfl Zm, hw.below0 rfl⟩
end
end Go.Proofs.YtjdckepbihcgfaaGreatDoor

namespace Go.Proofs.YtjdckepbihcgfaaGreatDoor
open Go.RowKit

section
variable (n : Nat) (f : Nat → Nat) (w : World) (hn : n ≤ 12) (hf : ∀ i, i < 12 → f i < 65536) (h0 : chkR n f = 0)
include hn hf h0
end
end Go.Proofs.YtjdckepbihcgfaaGreatDoor

namespace Go.Proofs.YtjdckepbihcgfaaGreatDoor
open Go.RowKit

theorem TL_facts {P : Program} {C : Ctx} {Q : Exit → Act → World → Prop} {E : Slots} {S : List Ent} {l rest : List Oper} {p : Prop} (hS : ∀ w, Mem C w S → p) (h : p → TL P C l Q rest E S) : TL P C l Q rest E S :=
  ⟨fun a w ha hw => (h (hS w hw)).run a w ha hw⟩
section
variable {C : Ctx} {S : List Ent} {w : World} {α : Type} {enc : α → List Value} {M et c : Nat} {A : Option Addr} {ls : List α}
theorem Lies.own (hm : entOwn enc M et A c ls ∈ S) (hA : A = Option.none → c = 0 ∧ ls = []) (hM : ∀ x, (enc x).length = M) : Lies C S (.slice A ls.length c) ls.length (ls.flatMap enc) := by
  cases A with
  | none =>
    obtain ⟨rfl, rfl⟩ := hA rfl
    exact .inl ⟨rfl, rfl, rfl⟩
  | some ad =>
    refine .inr ⟨ad, c, rfl, fun w hw j u hu => ?_⟩
    have h : Own enc M et w 0 (.slice (some ad) ls.length c) ls := (hw.holds _ hm).1
    rcases h.2 with ⟨hv, _⟩ | ⟨g, cap, cur, hv, _, hg, hn, hcm, hcs, htk⟩
    · simp at hv
    · simp only [Value.slice.injEq, Option.some.injEq] at hv
      obtain ⟨rfl, -, rfl⟩ := hv
      rw [add_mk, Nat.zero_add]
      have hj : j < ls.length * M := by
        have := (List.getElem?_eq_some_iff.1 hu).1
        rwa [flat_len hM] at this
      simp only [World.cell?, hg]
      rw [← htk, List.getElem?_take, if_pos hj] at hu
      simpa using hu
end
section
variable (n : Nat) (c : Nat → Nat) (hn : n ≤ 12) (hP : Po n c)
include hn hP
end
end Go.Proofs.YtjdckepbihcgfaaGreatDoor

namespace Go.Proofs.YtjdckepbihcgfaaGreatDoor
open Go.RowKit

theorem AppL.self : ∀ (T R : List Ent), AppL T R (T ++ R)
  | [], R => .nil R
  | e :: T, R => .cons e (AppL.self T R)
section
variable (n : Nat) (c : Nat → Nat) (hn : n ≤ 12)
include hn
end
end Go.Proofs.YtjdckepbihcgfaaGreatDoor

namespace Go.Proofs.YtjdckepbihcgfaaGreatDoor
open Go.RowKit

/-! plain: the sets of a list of colours -/
def maskC (l : List Nat) (k : Nat) : Nat := maskOf ((List.range l.length).filter fun j => decide (l.getD j 0 = k))
def setsL (l : List Nat) : List Nat := (List.range (fresh l)).map (maskC l)
theorem maskC_bit (l : List Nat) (k j : Nat) : (maskC l k).testBit j = (decide (j < l.length) && decide (l.getD j 0 = k)) := by
  unfold maskC
  rw [maskOf_bit, Bool.eq_iff_iff]
  simp
theorem maskC_lt (l : List Nat) (k : Nat) : maskC l k < 2 ^ l.length := maskOf_lt _ _ fun i hi => by simpa using (List.mem_filter.1 hi).1
theorem maskC_snoc_same (l : List Nat) (k : Nat) : maskC (l ++ [k]) k = maskC l k ||| 2 ^ l.length := by
  apply Nat.eq_of_testBit_eq
  intro j
  rw [Nat.testBit_or, Nat.testBit_two_pow, maskC_bit, maskC_bit]
  rcases Nat.lt_trichotomy j l.length with h | h | h
  · have e : (l ++ [k]).getD j 0 = l.getD j 0 := by simp [List.getD_eq_getElem?_getD, List.getElem?_append_left h]
    have : ¬ l.length = j := by omega
    rw [e]; simp [h, this]; omega
  · subst h
    have e : (l ++ [k]).getD l.length 0 = k := by simp [List.getD_eq_getElem?_getD]
    rw [e]; simp
  · have h1 : ¬ l.length = j := by omega
    have h2 : ¬ j < l.length := by omega
    have h3 : ¬ j < l.length + 1 := by omega
    simp [h1, h2, h3]
theorem maskC_snoc_other (l : List Nat) {k q : Nat} (h : q ≠ k) : maskC (l ++ [k]) q = maskC l q := by
  apply Nat.eq_of_testBit_eq
  intro j
  rw [maskC_bit, maskC_bit]
  rcases Nat.lt_trichotomy j l.length with h1 | h1 | h1
  · have e : (l ++ [k]).getD j 0 = l.getD j 0 := by simp [List.getD_eq_getElem?_getD, List.getElem?_append_left h1]
    have : j < l.length + 1 := by omega
    rw [e]; simp [h1, this]
  · subst h1
    have e : (l ++ [k]).getD l.length 0 = k := by simp [List.getD_eq_getElem?_getD]
    have : ¬ k = q := fun e => h e.symm
    rw [e]; simp [this]
  · have h2 : ¬ j < l.length := by omega
    have h3 : ¬ j < l.length + 1 := by omega
    simp [h2, h3]
theorem maskC_fresh (l : List Nat) {k : Nat} (h : fresh l ≤ k) : maskC l k = 0 := by
  apply Nat.eq_of_testBit_eq
  intro j
  rw [maskC_bit, Nat.zero_testBit, Bool.and_eq_false_iff]
  by_cases hj : j < l.length
  · right
    have := lt_fresh (l := l) l[j] (List.getElem_mem hj)
    have e : l.getD j 0 = l[j] := by simp [List.getD_eq_getElem?_getD, hj]
    rw [decide_eq_false_iff_not, e]; omega
  · left; simpa using hj
theorem setsL_len (l : List Nat) : (setsL l).length = fresh l := by simp [setsL]
theorem setsL_at (l : List Nat) {k : Nat} (h : k < (setsL l).length) : (setsL l)[k] = maskC l k := by simp [setsL]
/-- the sets, with room for the colour k -/
def setsK (l : List Nat) (k : Nat) : List Nat := if k = fresh l then setsL l ++ [0] else setsL l
theorem setsK_len (l : List Nat) {k : Nat} (h : k ≤ fresh l) : k < (setsK l k).length := by
  unfold setsK; split <;> simp [setsL_len] <;> omega
theorem setsK_at (l : List Nat) {k : Nat} (hk : k ≤ fresh l) (q : Nat) (h : q < (setsK l k).length) : (setsK l k)[q] = maskC l q := by
  unfold setsK at h ⊢
  split at h
  · rename_i e
    simp only [e, if_true]
    by_cases hq : q < (setsL l).length
    · rw [List.getElem_append_left hq, setsL_at]
    · have e2 : q = fresh l := by simp [setsL_len] at h hq; omega
      subst e2
      rw [maskC_fresh l (Nat.le_refl _)]
      rw [List.getElem_append_right (by rw [setsL_len]; exact Nat.le_refl _)]
      simp
  · rename_i e
    simp only [e, if_false]
    exact setsL_at l h
theorem setsK_put (l : List Nat) {k : Nat} (hk : k ≤ fresh l) : (setsK l k).set k (maskC l k ||| 2 ^ l.length) = setsL (l ++ [k]) := by
  apply List.ext_getElem
  · rw [List.length_set, setsL_len, fresh_snoc]
    unfold setsK; split <;> simp [setsL_len] <;> omega
  · intro q h1 h2
    rw [setsL_at, List.getElem_set]
    split
    · rename_i e; subst e; rw [maskC_snoc_same]
    · rename_i e
      rw [setsK_at l hk, maskC_snoc_other l (fun h => e h.symm)]
theorem andNot_back (m i : Nat) (hm : m < 65536) (hi : i < 16) (hb : m.testBit i = false) : (m ||| 2 ^ i) &&& (65535 - 2 ^ i) = m := by
  have hp : 2 ^ i < 65536 := by rw [show 65536 = 2 ^ 16 by rfl]; exact Nat.pow_lt_pow_right (by decide) hi
  apply Nat.eq_of_testBit_eq
  intro j
  have e : 65535 - 2 ^ i = 2 ^ 16 - (2 ^ i + 1) := by omega
  rw [Nat.testBit_and, Nat.testBit_or, e, Nat.testBit_two_pow_sub_succ (by omega), Nat.testBit_two_pow]
  by_cases hj : j < 16
  · by_cases h : i = j
    · subst h; simp [hb]
    · simp [hj, h]
  · have : m.testBit j = false := Nat.testBit_lt_two_pow (Nat.lt_of_lt_of_le hm (by rw [show 65536 = 2 ^ 16 by rfl]; exact Nat.pow_le_pow_right (by decide) (by omega)))
    simp [this, hj]
theorem setsK_take (l : List Nat) {k : Nat} (hk : k ≤ fresh l) (hl : l.length < 12) : (setsL (l ++ [k])).set k (maskC (l ++ [k]) k &&& (65535 - 2 ^ l.length)) = setsK l k := by
  have hlt : maskC l k < 65536 := Nat.lt_trans (maskC_lt l k) (by rw [show 65536 = 2 ^ 16 by rfl]; exact Nat.pow_lt_pow_right (by decide) (by omega))
  rw [maskC_snoc_same, andNot_back _ _ hlt (by omega) (by rw [maskC_bit]; simp), ← setsK_put l hk, List.set_set]
  apply List.ext_getElem
  · simp
  · intro q h1 h2
    rw [List.getElem_set]
    split
    · rename_i e; subst e; rw [setsK_at l hk]
    · rfl
/-- each number below the next one is there -/
def Rg (l : List Nat) : Prop := ∀ k, k < fresh l → k ∈ l
theorem Rg.snoc {l : List Nat} {k : Nat} (h : Rg l) (hk : k ≤ fresh l) : Rg (l ++ [k]) := by
  intro q hq
  rw [fresh_snoc] at hq
  rw [List.mem_append, List.mem_singleton]
  by_cases e : q = k
  · exact .inr e
  · exact .inl (h q (by omega))
theorem setsK_last {l : List Nat} (h : Rg l) {k : Nat} (hk : k ≤ fresh l) : ((setsK l k).getD ((setsK l k).length - 1) 0 = 0) ↔ k = fresh l := by
  have hlen := setsK_len l hk
  rw [List.getD_eq_getElem?_getD, List.getElem?_eq_getElem (by omega), Option.getD_some, setsK_at l hk]
  constructor
  · intro h0
    refine Classical.byContradiction fun hne => ?_
    have hl : (setsK l k).length = fresh l := by unfold setsK; rw [if_neg hne, setsL_len]
    rw [hl] at h0
    have hm := h (fresh l - 1) (by omega)
    obtain ⟨j, hj, he⟩ := List.getElem_of_mem hm
    have hb := maskC_bit l (fresh l - 1) j
    rw [h0, Nat.zero_testBit] at hb
    simp [hj, List.getD_eq_getElem?_getD, he] at hb
  · intro e
    subst e
    have hl : (setsK l (fresh l)).length = fresh l + 1 := by unfold setsK; rw [if_pos rfl]; simp [setsL_len]
    rw [hl]; exact maskC_fresh l (by omega)
end Go.Proofs.YtjdckepbihcgfaaGreatDoor

namespace Go.Proofs.YtjdckepbihcgfaaGreatDoor
open Go.RowKit

def pcells (n : Nat) (c : Nat → Nat) (m : Nat) (vo vs : Value) : Array Value := (((relCells n c).toList) ++ [.int .i64 m, vo, vs]).toArray
theorem pc_rel (n : Nat) (c : Nat → Nat) (m : Nat) (vo vs : Value) {i : Nat} (h : i < 12) : nthV (pcells n c m vo vs).toList (1 + i) = some (.int .u16 (c i)) := by
  rw [← nthV_eq, pcells, List.toList_toArray, List.getElem?_append_left (by simp [relCells_size]; omega), Array.getElem?_toList, relCells_at _ _ _ h]
theorem pc_all (n : Nat) (c : Nat → Nat) (m : Nat) (vo vs : Value) {j : Nat} {u : Value} (h : (relCells n c).toList[j]? = some u) : nthV (pcells n c m vo vs).toList j = some u := by
  rw [← nthV_eq, pcells, List.toList_toArray, List.getElem?_append_left (List.getElem?_eq_some_iff.1 h).1]; exact h
theorem lds_oldRel {C : Ctx} {S : List Ent} {g n m : Nat} {c : Nat → Nat} {vo vs : Value} (hb : g < C.w0.heap.size) (hF : g ∉ C.F) (hpc : ∀ o v, nthV (pcells n c m vo vs).toList o = some v → C.w0.cell? ⟨g, o, none⟩ = some v) : Lds Tryz.prog C S 43 ⟨g, 0, none⟩ (.agg (relCells n c)) := by
  have h := Lds.agg (P := Tryz.prog) (C := C) (S := S) (s := 43) (g := g) (o := 0) (cs := (relCells n c).toList) (m := 13) (by simp [relCells_size]) (fun w hw j u hu => by
    have h1 := hpc j u (pc_all n c m vo vs hu)
    have h2 := hw.keeps.block g hb hF
    rw [Nat.zero_add, ← h1]
    exact World.cell?_of_block (a := ⟨g, j, none⟩) h2)
  simpa using h
def fitsP (c : Nat → Nat) (n i s : Nat) : Bool := decide (((s &&& (65535 - (c i ||| befF c i n)) : Nat) : Int) = 0)
section
variable (n : Nat) (c : Nat → Nat) (i s g m : Nat) (vo vs : Value) (w : World) (hn : n ≤ 12) (hf : ∀ i, i < 12 → c i < 65536) (hi : i < n) (hs : s < 65536) (hgl : g < w.heap.size)
  (hpc : ∀ o v, nthV (pcells n c m vo vs).toList o = some v → w.cell? ⟨g, o, none⟩ = some v)
include hn hf hi hs hgl hpc
set_option maxRecDepth 100000 in
set_option maxHeartbeats 1000000 in
theorem fitsC_any : Calls Tryz.prog 101 #[.pointer (some ⟨g, 0, none⟩), .int .i64 i, .int .u16 s] w fun e w' => e = .returned (.bool (fitsP c n i s)) ∧ Below w.heap.size w w' := by
  have hi12 : i < 12 := by omega
  have hci := hf i hi12
  have hbf : befF c i n < 65536 := bitsTo_lt_16 _ (by omega)
  have hor : c i ||| befF c i n < 65536 := Nat.or_lt_two_pow (n := 16) hci hbf
  have hbef := fun w => before_any n c i w hn (by omega) hf
  refine calls_T (S := []) [] Tryz.func101 rfl Tryz.ntmps101 (by simp) (Mem.nil _) ?_
  repeat' (first | ((first | with_reducible (first | apply TL_q | apply TD_q0 | apply TD_q1 | apply TD_q2 | apply TD_q3) | ((with_reducible (first | apply TD_q0y | apply TD_q1y)); exact rfl; exact rfl; (with_reducible exact rfl))); (first | ((with_reducible apply QS_load); exact rfl; exact Lds.old hgl (by simp) (hpc _ _ (pc_rel _ _ _ _ _ hi12))) | ((with_reducible apply QS_load); exact rfl; exact lds_oldRel hgl (by simp) hpc) | exact QS.auto); exact rfl) | refine GG ?_ | (refine GE ?_; (first | rintro _ _ ⟨rfl, rfl⟩ | rintro _ _ ⟨g, rfl, rfl⟩ | rintro _ _ ⟨A', c', rfl, rfl⟩); (try refine ⟨SUB, ?_⟩)) | (refine GO2 ?_ ?_ <;> (refine Zs ?_; intro h; try exact Zx)) | refine GOF ?_ ?_ | ((with_reducible apply T_draw (id := 1) 1000 (OT.seq [(0, 0), (0, 1), (0, 2), (0, 3), (0, 4), (0, 5), (0, 6), (0, 8), (0, 9), (0, 10), (0, 12), (1, 7), (1, 11), (2, 13), (0, 14), (0, 15), (0, 16), (0, 17)] .nil)); kernel_rfl; exact rfl; kernel_rfl; (repeat (first | with_reducible exact Blind.body | with_reducible apply Blind.seq | with_reducible apply Blind.block))) | ((with_reducible (first | apply TD_e2z | apply TD_e3z | apply TL_e | apply TD_e2 | apply TD_e3)); ((with_reducible apply ES_callV (f := 50)); exact rfl; (intro w hw; exact hbef w); exact rfl); (first | exact rfl | exact ⟨rfl, rfl, rfl⟩); (rintro _ _ ⟨rfl, rfl⟩); (try refine ⟨SUB, ?_⟩)) | fail)
  all_goals
    (refine At_ret Tryz.results101 rfl (fun w' hw => ?_))
    exact ⟨rfl, hw.below0 rfl⟩
end
end Go.Proofs.YtjdckepbihcgfaaGreatDoor
