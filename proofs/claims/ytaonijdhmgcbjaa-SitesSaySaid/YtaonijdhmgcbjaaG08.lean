/- Lemmas for the walks (Pt, Row, SvA, Th4L, SvB). No condition. -/
import Derived.Test.YtaonijdhmgcbjaaG05
import Derived.Test.YtaonijdhmgcbjaaG04
import Derived.Test.YtaonijdhmgcbjaaG07
set_option linter.unusedSimpArgs false
set_option linter.unusedVariables false
set_option linter.unusedSectionVars false
set_option linter.unnecessarySimpa false
namespace Go.Proofs.Ytaonijdhmgcbjaa
open Go.RowKit
section
variable {α : Type} {enc : α → List Value} {M : Nat}
theorem flat_item (hM : ∀ x, (enc x).length = M) {ls : List α} {j : Nat} (hj : j < ls.length) : ls.flatMap enc = (ls.flatMap enc).take (j * M) ++ enc ls[j] ++ (ls.flatMap enc).drop (j * M + M) := by
  have := flat_setW hM ls[j] ls j hj
  rwa [List.set_getElem_self] at this
/-- written in a part: written as a whole -/
theorem part_whole {cur us b b2 : List Value} {p off : Nat} (hb : (cur.drop p).take b.length = b) (hl : p + b.length ≤ cur.length) (ho : off + us.length ≤ b.length) (h2 : b2 = b.take off ++ us ++ b.drop (off + us.length)) : cur.take (p + off) ++ us ++ cur.drop (p + off + us.length) = cur.take p ++ b2 ++ cur.drop (p + b2.length) := by
  have l2 : b2.length = b.length := by subst h2; simp; omega
  have hc : cur = cur.take p ++ (b ++ cur.drop (p + b.length)) := by
    rw [← hb]
    have : (cur.drop p).take b.length ++ cur.drop (p + b.length) = cur.drop p := by
      rw [← List.drop_drop, List.take_append_drop]
    rw [hb] at this ⊢
    rw [this, List.take_append_drop]
  have lp : (cur.take p).length = p := by rw [List.length_take]; omega
  rw [l2]
  have e1 : cur.take (p + off) = cur.take p ++ b.take off := by
    conv => lhs; rw [hc]
    rw [List.take_append, List.take_of_length_le (by omega), lp, show p + off - p = off by omega, List.take_append, show off - b.length = 0 by omega, List.take_zero, List.append_nil]
  have e2 : cur.drop (p + off + us.length) = b.drop (off + us.length) ++ cur.drop (p + b.length) := by
    conv => lhs; rw [hc]
    rw [List.drop_append, List.drop_of_length_le (by omega), lp, show p + off + us.length - p = off + us.length by omega, List.nil_append, List.drop_append, show off + us.length - b.length = 0 by omega, List.drop_zero]
  rw [e1, e2, h2]
  simp only [List.append_assoc]
end
section
variable {P : Program} {C : Ctx} {E : Slots} {S S' : List Ent} {ty s g c M m e j off : Nat} {ps : String} {af : Array Edge} {g0 : Option (Nat × Bool)} {x y : Operand} {α : Type} {enc : α → List Value} {ls : List α}
theorem Lds.rdFs {o : Nat} {v : Value} [OneCell P s] (h : RdE enc M C.w0 (some ⟨g, o, none⟩) ls) (hF : g ∉ C.F) (hj : 0 < ls.length) (hv : (enc ls[0])[off]? = some v) : Lds P C S s ⟨g, o + off, none⟩ v := by
  have := Lds.rd (P := P) (S := S) (s := s) h hF hj hv
  rwa [Nat.zero_mul, Nat.add_zero] at this
theorem Lds.ownPart [AggOf P s m] {us : List Value} (hm : entOwn enc M e (some ⟨g, 0, none⟩) c ls ∈ S) (hM : ∀ x, (enc x).length = M) (hj : j < ls.length) (hu : ((enc ls[j]).drop off).take m = us) (hl : us.length = m) : Lds P C S s ⟨g, j * M + off, none⟩ (.agg us.toArray) :=
  Lds.agg hl fun w hw k u hk => by
    rw [← hu, List.getElem?_take] at hk
    split at hk
    · rw [List.getElem?_drop] at hk
      rw [Nat.add_assoc]
      exact Own.cellAt (hw.holds _ hm).1 hM hj hk
    · cases hk
theorem Lds.qPart [AggOf P s m] {us : List Value} {x : α} (hm : entOwn enc M e (some ⟨g, 0, none⟩) c (ls.set j x) ∈ S) (hM : ∀ x, (enc x).length = M) (hj : j < ls.length) (hu : ((enc x).drop off).take m = us) (hl : us.length = m) : Lds P C S s ⟨g, j * M + off, none⟩ (.agg us.toArray) :=
  Lds.ownPart hm hM (by simpa using hj) (by rw [List.getElem_set_self]; exact hu) hl
theorem Lds.ownPart2 [AggOf P s 2] {u0 u1 : Value} (hm : entOwn enc M e (some ⟨g, 0, none⟩) c ls ∈ S) (hM : ∀ x, (enc x).length = M) (hj : j < ls.length) (h0 : (enc ls[j])[off]? = some u0) (h1 : (enc ls[j])[off + 1]? = some u1) : Lds P C S s ⟨g, j * M + off, none⟩ (.agg #[u0, u1]) :=
  Lds.agg (cs := [u0, u1]) rfl fun w hw k u hk => by
    match k, hk with
    | 0, hk =>
      simp at hk; subst hk
      exact Own.cellAt (hw.holds _ hm).1 hM hj h0
    | 1, hk =>
      simp at hk; subst hk
      exact Own.cellAt (off := off + 1) (hw.holds _ hm).1 hM hj h1
    | k + 2, hk => simp at hk
theorem Lds.qPart2 [AggOf P s 2] {u0 u1 : Value} {x : α} (hm : entOwn enc M e (some ⟨g, 0, none⟩) c (ls.set j x) ∈ S) (hM : ∀ x, (enc x).length = M) (hj : j < ls.length) (h0 : (enc x)[off]? = some u0) (h1 : (enc x)[off + 1]? = some u1) : Lds P C S s ⟨g, j * M + off, none⟩ (.agg #[u0, u1]) :=
  Lds.ownPart2 hm hM (by simpa using hj) (by rw [List.getElem_set_self]; exact h0) (by rw [List.getElem_set_self]; exact h1)
theorem ES_storeOwnPart [hs : AggOf P s m] {xx : α} {us : List Value} (hx : evo E x = some (.pointer (some ⟨g, j * M + off, none⟩))) (hy : evo E y = some (.agg us.toArray)) (hl : us.length = m)
    (hu : Upd S (entOwn enc M e (some ⟨g, 0, none⟩) c ls) (entOwn enc M e (some ⟨g, 0, none⟩) c (ls.set j xx)) S') (hM : ∀ x, (enc x).length = M) {x0 : α} (hx0 : ls[j]? = some x0) (ho : off + m ≤ M) (he : (enc x0).take off ++ us ++ (enc x0).drop (off + m) = enc xx) (h1 : us.all (·.oneCell') = true) :
    ES P C E S ⟨none, .store s x y, ty, ps, af, g0⟩ (fun E' T => E' = E ∧ T = S') := by
  obtain ⟨hj, hx1⟩ := List.getElem?_eq_some_iff.1 hx0
  subst hl
  subst hx1
  clear hx0
  refine (ES_skip (fun T => T = S') (fun a w ha hw => ?_)).weak (by rintro _ _ ⟨rfl, rfl⟩; exact ⟨rfl, rfl⟩)
  have ho' : Own enc M e w 0 (.slice (some ⟨g, 0, none⟩) ls.length c) ls := (hw.holds _ hu.mem).1
  obtain ⟨g', cap, cur, hv, hbb, hg, hnc, hcm, hcs, htake⟩ := ho'.2.resolve_left (by simp)
  simp only [Value.slice.injEq, Option.some.injEq, Addr.mk.injEq, and_true, true_and] at hv
  obtain ⟨rfl, rfl⟩ := hv
  have hjM : j * M + M ≤ ls.length * M := by rw [← Nat.succ_mul]; exact Nat.mul_le_mul_right _ hj
  have hnM : ls.length * M ≤ c * M := Nat.mul_le_mul_right _ hnc
  have hfit : j * M + off + us.length ≤ cur.size := by rw [hcs]; omega
  have hst := run_storeCells_at P g (j * M + off) e us 0 cur w hg (by simpa using hfit) (fun u hu => List.all_eq_true.1 h1 u hu)
  simp only [Nat.add_zero] at hst
  have hseg : (cur.toList.drop (j * M)).take (enc ls[j]).length = enc ls[j] := by
    have h2 : (ls.flatMap enc).drop (j * M) = enc ls[j] ++ (ls.flatMap enc).drop (j * M + M) := by
      conv => lhs; rw [flat_item hM hj]
      have la : ((ls.flatMap enc).take (j * M)).length = j * M := by
        have := flat_len hM ls
        rw [List.length_take, this]; omega
      rw [List.append_assoc, List.drop_append, List.drop_of_length_le (by omega), la, Nat.sub_self, List.drop_zero, List.nil_append]
    rw [← htake, List.drop_take] at h2
    have h3 : ((cur.toList.drop (j * M)).take (ls.length * M - j * M)).take M = enc ls[j] := by
      rw [h2, List.take_append, List.take_of_length_le (by rw [hM]; omega), hM, Nat.sub_self, List.take_zero, List.append_nil]
    rw [List.take_take, Nat.min_eq_left (by omega)] at h3
    rw [hM]; exact h3
  have hpw := part_whole (cur := cur.toList) (us := us) (b := enc ls[j]) (b2 := enc xx) (p := j * M) (off := off) hseg (by rw [hM, Array.length_toList, hcs]; omega) (by rw [hM]; omega) he.symm
  rw [hpw] at hst
  have hcl : (cur.toList.take (j * M) ++ enc xx ++ cur.toList.drop (j * M + (enc xx).length)).length = cur.size := by
    simp only [List.length_append, List.length_take, List.length_drop, Array.length_toList, hM]; omega
  refine ⟨w.setRow g (cur.toList.take (j * M) ++ enc xx ++ cur.toList.drop (j * M + (enc xx).length)).toArray, S', ?_, ?_, rfl⟩
  · have hsz : (Value.agg us.toArray).cells.size = us.length := by simp [Value.cells]
    simp only [execOp, ha.evo hx, ha.evo hy, Instr.storeAt, Instr.sureAddr, storeVar, Sem.run_bind, Sem.run_pure, Result.andThen_ok, hs.size w, hsz]
    simp [Value.cells, hst]
  · refine hw.upd hu (Keeps.setRow w g _) (by simp [entOwn, Value.ownBlock]) (fun k hk => ?_) ?_
    · have hk' : some g = some k := hk
      cases hk'
      exact ⟨by simpa using (Array.getElem?_eq_some_iff.1 hg).1, .inl rfl⟩
    · show Own enc M e _ 0 (.slice (some ⟨g, 0, none⟩) (ls.set j xx).length c) (ls.set j xx)
      refine ⟨flat_len hM _, .inr ⟨g, c, _, rfl, Nat.zero_le _, setRow_heap w g cur _ e _ hg, by simpa using hnc, hcm, ?_, ?_⟩⟩
      · simp only [List.size_toArray]; rw [hcl, hcs]
      · rw [flat_setW hM xx ls j hj]
        simp only [List.length_set]
        rw [← htake, hM]
        have l1 : (cur.toList.take (j * M)).length = j * M := by rw [List.length_take, Array.length_toList, hcs]; omega
        have l2 : (cur.toList.take (j * M) ++ enc xx).length = j * M + M := by rw [List.length_append, l1, hM]
        rw [List.take_append, List.take_of_length_le (by rw [l2]; omega), l2, List.take_take, Nat.min_eq_left (by omega), List.drop_take]
end
end Go.Proofs.Ytaonijdhmgcbjaa

namespace Go.Proofs.Ytaonijdhmgcbjaa
open Go.RowKit

def hd0 : Hd := ⟨none, 0, 0⟩
section
variable {C : Ctx} {w : World} {S S1 S' : List Ent} {α : Type} {enc : α → List Value} {M e : Nat} {hs : List Hd} {rows : List (List α)} {l : List α} {A : Option Addr} {c j : Nat}
theorem Mem.newBlkF {b : Nat} {R : List Ent} (hw : Mem C w (S1 ++ R)) (hF : b ∉ C.F) (hb : b < C.w0.heap.size) : b ∉ blks S1 := fun hm => by
  obtain ⟨e, he, hg⟩ := mem_blks.1 hm
  rcases ((hw.holds e (by simp [he])).2 b hg).2 with h | h
  · exact hF h
  · omega
theorem Mem.rdAwayF {A : Option Addr} {ls : List α} (hw : Mem C w S) (h : RdE enc M C.w0 A ls) (hF : ∀ b o, A = some ⟨b, o, Option.none⟩ → b ∉ C.F) : RdE enc M w A ls := by
  intro j x hj
  obtain ⟨b, o, h1, h2, h3⟩ := h j x hj
  exact ⟨b, o, h1, Nat.lt_of_lt_of_le h2 hw.keeps.size, fun k v hk => hw.old h2 (hF b o h1) (h3 k v hk)⟩
end
end Go.Proofs.Ytaonijdhmgcbjaa

namespace Go.Proofs.Ytaonijdhmgcbjaa
open Go.RowKit
set_option linter.unusedSectionVars false

def cmpZ (x y : Int) : Int := if x < y then -1 else if y < x then 1 else 0
def cmpT (a b : Tg) : Int := if cmpZ a.s b.s ≠ 0 then cmpZ a.s b.s else cmpZ a.w b.w
theorem cmpT_pos (a b : Tg) : (0 < cmpT a b) ↔ lessT b a = true := by
  rw [less_iff]
  unfold cmpT cmpZ
  (repeat' split) <;> constructor <;> intro hh <;> omega
set_option maxRecDepth 100000 in
theorem cmpZ_any (x y : Int) (w : World) : Calls Try.prog 63 #[.int .i64 x, .int .i64 y] w fun e w' => e = .returned (.int .i64 (cmpZ x y)) ∧ Below w.heap.size w w' := by
  refine calls_T (S := []) [] Try.func63 rfl Try.ntmps63 (by simp) (Mem.nil _) ?_
  repeat' (first | (refine GO ?_) | (refine GOE ?_; (first | (rintro _ _ ⟨rfl, rfl⟩) | (rintro _ _ ⟨g, rfl, rfl⟩) | (rintro _ _ ⟨A', c', rfl, rfl⟩))) | ((refine GO2 ?_ ?_) <;> intro h <;> (try (repeat (first | with_reducible (replace h := of_decide_eq_true h) | with_reducible (replace h := of_decide_eq_false h) | with_reducible (replace h := bnt h) | with_reducible (replace h := bnf h) | with_reducible (replace h := Int.not_lt.mp h) | with_reducible (replace h := Int.not_le.mp h) | with_reducible (replace h := band_dec h) | with_reducible (replace h := band_decF h) | with_reducible (replace h := bor_dec h) | with_reducible (replace h := bor_decF h)))) <;> (try (exfalso; first | contradiction | omega))) | ((with_reducible (first | apply TD_e2z | apply TD_e3z | apply TL_e | apply TD_e2 | apply TD_e3)); ((with_reducible apply ES_callV (f := 84)); exact rfl; (intro w hw; exact cNaN_any _ w); exact rfl); (first | exact rfl | exact ⟨rfl, rfl, rfl⟩); (rintro _ _ ⟨rfl, rfl⟩); (try refine ⟨SUB, ?_⟩)) | fail)
  all_goals (refine At_ret Try.results63 rfl (fun w' hw => ?_))
  all_goals refine ⟨?_, hw.below0 rfl⟩
  · have h1 : x < y := by assumption
    rw [cmpZ, if_pos h1]; rfl
  · have h1 : y < x := by assumption
    rw [cmpZ, if_neg (by omega), if_pos h1]; rfl
  · have h1 : y ≤ x := by assumption
    have h2 : x ≤ y := by assumption
    rw [cmpZ, if_neg (by omega), if_neg (by omega)]; rfl
set_option maxRecDepth 100000 in
theorem or2_any (A : Option Addr) (x y : Int) (w : World) (hA : RdInt w A [x, y]) : Calls Try.prog 80 #[.slice A 2 2] w fun e w' => e = .returned (.int .i64 (if x ≠ 0 then x else y)) ∧ Below w.heap.size w w' := by
  obtain ⟨b, o, rfl, _⟩ := RdE.open hA (by simp)
  refine calls_T (S := []) [] Try.func80 rfl Try.ntmps80 (by simp) (Mem.nil _) ?_
  repeat' (first | (refine GO ?_) | (refine GOE ?_; (first | (rintro _ _ ⟨rfl, rfl⟩) | (rintro _ _ ⟨g, rfl, rfl⟩) | (rintro _ _ ⟨A', c', rfl, rfl⟩))) | ((refine GO2 ?_ ?_) <;> intro h <;> (try (repeat (first | with_reducible (replace h := of_decide_eq_true h) | with_reducible (replace h := of_decide_eq_false h) | with_reducible (replace h := bnt h) | with_reducible (replace h := bnf h) | with_reducible (replace h := Int.not_lt.mp h) | with_reducible (replace h := Int.not_le.mp h) | with_reducible (replace h := band_dec h) | with_reducible (replace h := band_decF h) | with_reducible (replace h := bor_dec h) | with_reducible (replace h := bor_decF h)))) <;> (try (exfalso; first | contradiction | omega))) | fail)
  refine T_loop (X := Nat) (fun k => [(8, .int .i64 (k : Nat)), (7, .int .i64 2), (6, .slice (some ⟨b, o, none⟩) 2 2), (3, .int .i64 0)]) (fun _ => [])
    (fun k => k ≤ 2 ∧ (0 < k → x = 0) ∧ (1 < k → y = 0)) (fun k => 2 - k) 0 ⟨by omega, by omega, by omega⟩ (by (repeat (first | exact SubE.nil _ | refine SubE.cons rfl ?_))) (by exact SUBS) ?_
  rintro k ⟨hk, h1, h2⟩
  have hl : ([x, y] : List Int).length = 2 := rfl
  have e : k = 0 ∨ k = 1 ∨ k = 2 := by omega
  rcases e with rfl | rfl | rfl
  · by_cases hx : x = 0
    · subst hx
      repeat' (first | (refine GO ?_) | (refine GOE ?_; (first | (rintro _ _ ⟨rfl, rfl⟩) | (rintro _ _ ⟨g, rfl, rfl⟩) | (rintro _ _ ⟨A', c', rfl, rfl⟩))) | ((refine GO2 ?_ ?_) <;> intro h <;> (try (repeat (first | with_reducible (replace h := of_decide_eq_true h) | with_reducible (replace h := of_decide_eq_false h) | with_reducible (replace h := bnt h) | with_reducible (replace h := bnf h) | with_reducible (replace h := Int.not_lt.mp h) | with_reducible (replace h := Int.not_le.mp h) | with_reducible (replace h := band_dec h) | with_reducible (replace h := band_decF h) | with_reducible (replace h := bor_dec h) | with_reducible (replace h := bor_decF h)))) <;> (try (exfalso; first | contradiction | omega))) | fail)
      all_goals first
        | (exfalso; omega)
        | ((refine At_rounds (1) ?_ ?_ ?_ ?_; (exact ⟨by omega, fun _ => rfl, by omega⟩); (omega); ((repeat (first | exact SubE.nil _ | refine SubE.cons rfl ?_))); (exact SUBS)))
    · repeat' (first | (refine GO ?_) | (refine GOE ?_; (first | (rintro _ _ ⟨rfl, rfl⟩) | (rintro _ _ ⟨g, rfl, rfl⟩) | (rintro _ _ ⟨A', c', rfl, rfl⟩))) | ((refine GO2 ?_ ?_) <;> intro h <;> (try (repeat (first | with_reducible (replace h := of_decide_eq_true h) | with_reducible (replace h := of_decide_eq_false h) | with_reducible (replace h := bnt h) | with_reducible (replace h := bnf h) | with_reducible (replace h := Int.not_lt.mp h) | with_reducible (replace h := Int.not_le.mp h) | with_reducible (replace h := band_dec h) | with_reducible (replace h := band_decF h) | with_reducible (replace h := bor_dec h) | with_reducible (replace h := bor_decF h)))) <;> (try (exfalso; first | contradiction | omega))) | fail)
      all_goals first
        | (exfalso; omega)
        | ((refine At_ret Try.results80 rfl (fun w' hw => ?_)); rw [if_pos hx]; exact ⟨rfl, hw.below0 rfl⟩)
  · obtain rfl : x = 0 := h1 (by omega)
    by_cases hy : y = 0
    · subst hy
      repeat' (first | (refine GO ?_) | (refine GOE ?_; (first | (rintro _ _ ⟨rfl, rfl⟩) | (rintro _ _ ⟨g, rfl, rfl⟩) | (rintro _ _ ⟨A', c', rfl, rfl⟩))) | ((refine GO2 ?_ ?_) <;> intro h <;> (try (repeat (first | with_reducible (replace h := of_decide_eq_true h) | with_reducible (replace h := of_decide_eq_false h) | with_reducible (replace h := bnt h) | with_reducible (replace h := bnf h) | with_reducible (replace h := Int.not_lt.mp h) | with_reducible (replace h := Int.not_le.mp h) | with_reducible (replace h := band_dec h) | with_reducible (replace h := band_decF h) | with_reducible (replace h := bor_dec h) | with_reducible (replace h := bor_decF h)))) <;> (try (exfalso; first | contradiction | omega))) | fail)
      all_goals first
        | (exfalso; omega)
        | ((refine At_rounds (2) ?_ ?_ ?_ ?_; (exact ⟨by omega, fun _ => rfl, fun _ => rfl⟩); (omega); ((repeat (first | exact SubE.nil _ | refine SubE.cons rfl ?_))); (exact SUBS)))
    · repeat' (first | (refine GO ?_) | (refine GOE ?_; (first | (rintro _ _ ⟨rfl, rfl⟩) | (rintro _ _ ⟨g, rfl, rfl⟩) | (rintro _ _ ⟨A', c', rfl, rfl⟩))) | ((refine GO2 ?_ ?_) <;> intro h <;> (try (repeat (first | with_reducible (replace h := of_decide_eq_true h) | with_reducible (replace h := of_decide_eq_false h) | with_reducible (replace h := bnt h) | with_reducible (replace h := bnf h) | with_reducible (replace h := Int.not_lt.mp h) | with_reducible (replace h := Int.not_le.mp h) | with_reducible (replace h := band_dec h) | with_reducible (replace h := band_decF h) | with_reducible (replace h := bor_dec h) | with_reducible (replace h := bor_decF h)))) <;> (try (exfalso; first | contradiction | omega))) | fail)
      all_goals first
        | (exfalso; omega)
        | ((refine At_ret Try.results80 rfl (fun w' hw => ?_)); rw [if_neg (by simp)]; exact ⟨rfl, hw.below0 rfl⟩)
  · obtain rfl : x = 0 := h1 (by omega)
    obtain rfl : y = 0 := h2 (by omega)
    repeat' (first | (refine GO ?_) | (refine GOE ?_; (first | (rintro _ _ ⟨rfl, rfl⟩) | (rintro _ _ ⟨g, rfl, rfl⟩) | (rintro _ _ ⟨A', c', rfl, rfl⟩))) | ((refine GO2 ?_ ?_) <;> intro h <;> (try (repeat (first | with_reducible (replace h := of_decide_eq_true h) | with_reducible (replace h := of_decide_eq_false h) | with_reducible (replace h := bnt h) | with_reducible (replace h := bnf h) | with_reducible (replace h := Int.not_lt.mp h) | with_reducible (replace h := Int.not_le.mp h) | with_reducible (replace h := band_dec h) | with_reducible (replace h := band_decF h) | with_reducible (replace h := bor_dec h) | with_reducible (replace h := bor_decF h)))) <;> (try (exfalso; first | contradiction | omega))) | fail)
    all_goals first
      | (exfalso; omega)
      | ((refine At_ret Try.results80 rfl (fun w' hw => ?_)); rw [if_neg (by simp)]; exact ⟨rfl, hw.below0 rfl⟩)
theorem rd_blk2 {C : Ctx} {w : World} {S : List Ent} {g t : Nat} {x y : Int} (hw : Mem C w S) (hm : entBlk g t #[.int .i64 x, .int .i64 y] ∈ S) : RdInt w (some ⟨g, 0, none⟩) [x, y] := by
  obtain ⟨h1, h2⟩ := hw.blkAt hm
  intro j z hj
  refine ⟨g, 0, rfl, h1, fun off v hv => ?_⟩
  rw [h2]
  match j, hj, off, hv with
  | 0, hj, 0, hv => simp at hj; subst hj; simpa [intEnc] using hv
  | 1, hj, 0, hv => simp at hj; subst hj; simpa [intEnc] using hv
  | j + 2, hj, _, _ => simp at hj
  | 0, _, off + 1, hv => simp [intEnc] at hv
  | 1, _, off + 1, hv => simp [intEnc] at hv
set_option maxRecDepth 100000 in
theorem cmpT_any (a b : Tg) (w : World) : Calls Try.prog 58 #[.agg #[.int .i64 a.s, .int .i64 a.w], .agg #[.int .i64 b.s, .int .i64 b.w]] w fun e w' => e = .returned (.int .i64 (cmpT a b)) ∧ Below w.heap.size w w' := by
  refine calls_T (S := []) [] Try.func58 rfl Try.ntmps58 (by simp) (Mem.nil _) ?_
  unfold cmpT
  repeat' (first | (refine GG ?_) | (refine GE ?_; (first | (rintro _ _ ⟨rfl, rfl⟩) | (rintro _ _ ⟨g, rfl, rfl⟩) | (rintro _ _ ⟨A', c', rfl, rfl⟩)); (try refine ⟨SUB, ?_⟩)) | ((refine GO2 ?_ ?_) <;> intro h <;> (try (repeat (first | with_reducible (replace h := of_decide_eq_true h) | with_reducible (replace h := of_decide_eq_false h) | with_reducible (replace h := bnt h) | with_reducible (replace h := bnf h) | with_reducible (replace h := Int.not_lt.mp h) | with_reducible (replace h := Int.not_le.mp h) | with_reducible (replace h := band_dec h) | with_reducible (replace h := band_decF h) | with_reducible (replace h := bor_dec h) | with_reducible (replace h := bor_decF h)))) <;> (try (exfalso; first | contradiction | omega))) | (refine GOF ?_ ?_) | ((with_reducible apply T_draw (id := 1) 1000 (OT.seq [(0, 0), (0, 2), (0, 5), (0, 7), (1, 1), (1, 3), (1, 6), (1, 8), (2, 4), (2, 9), (2, 10), (2, 11), (0, 12)] .nil)); kernel_rfl; exact rfl; kernel_rfl; (repeat (first | with_reducible exact Blind.body | with_reducible apply Blind.seq | with_reducible apply Blind.block))) | ((with_reducible (first | apply TD_e2z | apply TD_e3z | apply TL_e | apply TD_e2 | apply TD_e3)); ((with_reducible apply ES_callV (f := 63)); exact rfl; (intro w hw; exact cmpZ_any _ _ w); exact rfl); (first | exact rfl | exact ⟨rfl, rfl, rfl⟩); (rintro _ _ ⟨rfl, rfl⟩); (try refine ⟨SUB, ?_⟩)) | ((with_reducible (first | apply TD_e2z | apply TD_e3z | apply TL_e | apply TD_e2 | apply TD_e3)); ((with_reducible apply ES_callV (f := 80)); exact rfl; (intro w hw; exact or2_any _ _ _ w (rd_blk2 hw (by first | ((repeat (first | with_reducible exact List.mem_cons_self | with_reducible apply List.mem_cons_of_mem)); done) | (repeat (first | exact List.Mem.head _ | apply List.Mem.tail))))); exact rfl); (first | exact rfl | exact ⟨rfl, rfl, rfl⟩); (rintro _ _ ⟨rfl, rfl⟩); (try refine ⟨SUB, ?_⟩)) | fail)
  (refine At_ret Try.results58 rfl (fun w' hw => ?_))
  exact ⟨rfl, hw.below0 rfl⟩

structure Fq where
  hd : Hd
  pend : Bool
  rd : Int
  put : Bool
  rep : Int
  bs : Int
  bw : Int
  bv : Int
def Fq.enc (q : Fq) : List Value := [.slice q.hd.a q.hd.n q.hd.c, .bool q.pend, .int .i64 q.rd, .bool q.put, .int .i64 q.rep, .int .i64 q.bs, .int .i64 q.bw, .int .i64 q.bv]
theorem Fq.enc_mk (A : Option Addr) (n c : Nat) (p : Bool) (r : Int) (u : Bool) (t bs bw bv : Int) : Fq.enc ⟨⟨A, n, c⟩, p, r, u, t, bs, bw, bv⟩ = [.slice A n c, .bool p, .int .i64 r, .bool u, .int .i64 t, .int .i64 bs, .int .i64 bw, .int .i64 bv] := rfl
structure Fl where
  who : Int
  rnd : Int
  site : Int
  put : Bool
  s : Int
  w : Int
  v : Int
  del : Bool
  rec_ : Bool
def Fl.enc (l : Fl) : List Value := [.int .i64 l.who, .int .i64 l.rnd, .int .i64 l.site, .bool l.put, .int .i64 l.s, .int .i64 l.w, .int .i64 l.v, .bool l.del, .bool l.rec_]
theorem Fl.enc_mk (a b c : Int) (p : Bool) (s w v : Int) (d r : Bool) : Fl.enc ⟨a, b, c, p, s, w, v, d, r⟩ = [.int .i64 a, .int .i64 b, .int .i64 c, .bool p, .int .i64 s, .int .i64 w, .int .i64 v, .bool d, .bool r] := rfl
def Si.enc (x : Si) : List Value := [.int .i64 x.s, .int .i64 x.w, .int .i64 x.v, .bool x.down]
theorem Si.enc_mk (s w v : Int) (d : Bool) : Si.enc ⟨s, w, v, d⟩ = [.int .i64 s, .int .i64 w, .int .i64 v, .bool d] := rfl
def fq (h : Hd) (p : Pc) : Fq := ⟨h, p.pend, (p.rd : Nat), p.put, (p.rep : Nat), p.best.s, p.best.w, p.best.v⟩
def fl (l : Lc) : Fl := ⟨(l.who : Nat), (l.rnd : Nat), (l.site : Nat), l.put, l.tg.s, l.tg.w, l.tg.v, l.del, l.rec_⟩
def newF (w r : Int) (put : Bool) (t : Tg) (n : Nat) : List Fl := (List.range n).map fun j => ⟨w, r, (j : Nat), put, t.s, t.w, t.v, false, false⟩
theorem newF_succ (w r : Int) (put : Bool) (t : Tg) (n : Nat) : newF w r put t (n + 1) = newF w r put t n ++ [⟨w, r, (n : Nat), put, t.s, t.w, t.v, false, false⟩] := by
  unfold newF; rw [List.range_succ, List.map_append]; rfl
/-- where the net lies -/
structure NLc where
  m : Nat
  gS : Nat
  cS : Nat
  gP : Nat
  cP : Nat
@[reducible] def netB (a : NLc) (fast : Bool) (nS nP nL nE : Nat) (y x : Option Addr × Nat) : Ent :=
  entBlk a.m 79 #[.bool fast, .slice (some ⟨a.gS, 0, none⟩) nS a.cS, .slice (some ⟨a.gP, 0, none⟩) nP a.cP, .slice y.1 nL y.2, .slice x.1 nE x.2]
def netV (a : NLc) (fast : Bool) (at_ : List Si) (pr : List Fq) (L : List Fl) (evs : List Ev) (y x : Option Addr × Nat) : List Ent :=
  [netB a fast at_.length pr.length L.length evs.length y x, entOwn Si.enc 4 37 (some ⟨a.gS, 0, none⟩) a.cS at_, entOwn Fq.enc 8 84 (some ⟨a.gP, 0, none⟩) a.cP pr, entOwn Fl.enc 9 134 y.1 y.2 L, entOwn Ev.enc 4 34 x.1 x.2 evs]
end Go.Proofs.Ytaonijdhmgcbjaa

namespace Go.Proofs.Ytaonijdhmgcbjaa
open Go.RowKit
set_option linter.unusedSectionVars false

instance : Inhabited Hd := ⟨⟨none, 0, 0⟩⟩
section
variable {P : Program} {C : Ctx} {S : List Ent} {α : Type} {enc : α → List Value} {M e g c j off s : Nat} {ls : List α} {x : α} {v : Value}
theorem Lds.rdAggZ {o : Nat} [hs : AggOf P s M] (h : RdE enc M C.w0 (some ⟨g, o, none⟩) ls) (hM : ∀ x, (enc x).length = M) (hF : g ∉ C.F) (hj : 0 < ls.length) : Lds P C S s ⟨g, o, none⟩ (.agg (enc ls[0]).toArray) := by
  have := Lds.rdAgg (P := P) (S := S) (s := s) h hM hF hj
  rwa [Nat.zero_mul, Nat.add_zero] at this
theorem Lds.setAt [OneCell P s] (hm : entOwn enc M e (some ⟨g, 0, none⟩) c (ls.set j x) ∈ S) (hM : ∀ x, (enc x).length = M) (hj : j < ls.length) (hv : (enc x)[off]? = some v) : Lds P C S s ⟨g, j * M + off, none⟩ v :=
  Lds.own hm hM (by simpa using hj) (by rw [List.getElem_set_self]; exact hv)
theorem Lds.setAt0 [OneCell P s] (hm : entOwn enc M e (some ⟨g, 0, none⟩) c (ls.set j x) ∈ S) (hM : ∀ x, (enc x).length = M) (hj : j < ls.length) (hv : (enc x)[0]? = some v) : Lds P C S s ⟨g, j * M, none⟩ v :=
  Lds.own0 hm hM (by simpa using hj) (by rw [List.getElem_set_self]; exact hv)
end
end Go.Proofs.Ytaonijdhmgcbjaa

namespace Go.Proofs.Ytaonijdhmgcbjaa
open Go.RowKit
theorem QSarm_SvB {p : Prop} (h : p := by (first | ((with_reducible apply QS_load); exact rfl; exact Lds.own (enc := Fq.enc) (by first | ((repeat (first | with_reducible exact List.mem_cons_self | with_reducible apply List.mem_cons_of_mem)); done) | (repeat (first | exact List.Mem.head _ | apply List.Mem.tail))) (by intro x; rfl) hk (by rw [hpk, Fq.enc_mk]; rfl)) | ((with_reducible apply QS_load); exact rfl; exact Lds.own0 (enc := Fq.enc) (by first | ((repeat (first | with_reducible exact List.mem_cons_self | with_reducible apply List.mem_cons_of_mem)); done) | (repeat (first | exact List.Mem.head _ | apply List.Mem.tail))) (by intro x; rfl) hk (by rw [hpk, Fq.enc_mk]; rfl)) | ((with_reducible apply QS_load); exact rfl; exact Lds.setAt (enc := Fq.enc) (by first | ((repeat (first | with_reducible exact List.mem_cons_self | with_reducible apply List.mem_cons_of_mem)); done) | (repeat (first | exact List.Mem.head _ | apply List.Mem.tail))) (by intro x; rfl) (by first | exact hk | (simp only [List.length_set]; exact hk)) (by rw [Fq.enc_mk]; rfl)) | ((with_reducible apply QS_load); exact rfl; exact Lds.setAt0 (enc := Fq.enc) (by first | ((repeat (first | with_reducible exact List.mem_cons_self | with_reducible apply List.mem_cons_of_mem)); done) | (repeat (first | exact List.Mem.head _ | apply List.Mem.tail))) (by intro x; rfl) (by first | exact hk | (simp only [List.length_set]; exact hk)) (by rw [Fq.enc_mk]; rfl)) | ((with_reducible apply QS_load); exact rfl; exact Lds.ownPart2 (enc := Fq.enc) (by first | ((repeat (first | with_reducible exact List.mem_cons_self | with_reducible apply List.mem_cons_of_mem)); done) | (repeat (first | exact List.Mem.head _ | apply List.Mem.tail))) (by intro x; rfl) hk (by rw [hpk, Fq.enc_mk]; rfl) (by rw [hpk, Fq.enc_mk]; rfl)) | ((with_reducible apply QS_load); exact rfl; exact Lds.qPart2 (enc := Fq.enc) (by first | ((repeat (first | with_reducible exact List.mem_cons_self | with_reducible apply List.mem_cons_of_mem)); done) | (repeat (first | exact List.Mem.head _ | apply List.Mem.tail))) (by intro x; rfl) (by first | exact hk | (simp only [List.length_set]; exact hk)) (by rw [Fq.enc_mk]; rfl) (by rw [Fq.enc_mk]; rfl)) | ((with_reducible apply QS_load); exact rfl; exact Lds.own (enc := Fq.enc) (off := 6) (by first | ((repeat (first | with_reducible exact List.mem_cons_self | with_reducible apply List.mem_cons_of_mem)); done) | (repeat (first | exact List.Mem.head _ | apply List.Mem.tail))) (by intro x; rfl) hk (by rw [hpk, Fq.enc_mk]; rfl)) | ((with_reducible apply QS_load); exact rfl; exact Lds.setAt (enc := Fq.enc) (off := 6) (by first | ((repeat (first | with_reducible exact List.mem_cons_self | with_reducible apply List.mem_cons_of_mem)); done) | (repeat (first | exact List.Mem.head _ | apply List.Mem.tail))) (by intro x; rfl) (by first | exact hk | (simp only [List.length_set]; exact hk)) (by rw [Fq.enc_mk]; rfl)) | ((with_reducible apply QS_sliceLow (l := 1)); exact rfl; exact rfl; omega) | exact QS.auto)) : p := h
theorem ESarm_SvB {p : Prop} (h : p := by (first | ((with_reducible apply ES_storeOwnPart (enc := Fq.enc)); exact rfl; exact rfl; exact rfl; (first | ((repeat (first | with_reducible exact Upd.here _ _ _ | with_reducible apply Upd.there)); done) | (repeat (first | exact Upd.here _ _ _ | apply Upd.there))); (intro x; rfl); (first | exact List.getElem?_set_self (by first | exact hk | (simp only [List.length_set]; exact hk)) | exact hpk1); decide; exact (Fq.enc_mk _ _ _ _ _ _ _ _ _ _).symm; exact rfl) | ((with_reducible apply ES_storeOwn (enc := Fq.enc)); exact rfl; exact rfl; (first | ((repeat (first | with_reducible exact Upd.here _ _ _ | with_reducible apply Upd.there)); done) | (repeat (first | exact Upd.here _ _ _ | apply Upd.there))); (intro x; rfl); (first | exact List.getElem?_set_self (by first | exact hk | (simp only [List.length_set]; exact hk)) | exact hpk1); decide; exact Fq.enc_mk _ _ _ _ _ _ _ _ _ _; exact rfl) | ((with_reducible apply ES_storeOwn0 (enc := Fq.enc)); exact rfl; exact rfl; (first | ((repeat (first | with_reducible exact Upd.here _ _ _ | with_reducible apply Upd.there)); done) | (repeat (first | exact Upd.here _ _ _ | apply Upd.there))); (intro x; rfl); (first | exact List.getElem?_set_self (by first | exact hk | (simp only [List.length_set]; exact hk)) | exact hpk1); decide; exact Fq.enc_mk _ _ _ _ _ _ _ _ _ _; exact rfl) | exact ES.auto)) : p := h
set_option linter.unusedSectionVars false

section
variable (a : NLc) (fast : Bool) (nS nE : Nat) (x : Option Addr × Nat) (pr : List Fq) (L : List Fl) (y : Option Addr × Nat) (k n0 : Nat) (w : World) (hk : k < pr.length)
  (A : Option Addr) (n c : Nat) (pd : Bool) (rd : Int) (pu : Bool) (rp bs bw bv : Int) (hpk : pr[k] = ⟨⟨A, n, c⟩, pd, rd, pu, rp, bs, bw, bv⟩) (hrd : 0 ≤ rd) (hrd2 : rd ≤ 10000)
include hk hpk hrd hrd2
def prS (k : Nat) (rd : Int) (put : Bool) (t : Tg) (pr : List Fq) (A : Option Addr) (n c : Nat) (pd : Bool) : List Fq := pr.set k ⟨⟨A, n, c⟩, pd, rd + 1, put, 0, if put = true then t.s else -1, if put = true then t.w else -1, if put = true then t.v else 0⟩
set_option maxRecDepth 100000 in
set_option maxHeartbeats 4000000 in
theorem start_any (hS : nS ≤ 5) (hL : L.length ≤ 10000) (put : Bool) (t : Tg)
    (hM : Mem ⟨n0, blks [netB a fast nS pr.length L.length nE y x, entOwn Fq.enc 8 84 (some ⟨a.gP, 0, none⟩) a.cP pr, entOwn Fl.enc 9 134 y.1 y.2 L], w⟩ w [netB a fast nS pr.length L.length nE y x, entOwn Fq.enc 8 84 (some ⟨a.gP, 0, none⟩) a.cP pr, entOwn Fl.enc 9 134 y.1 y.2 L]) :
    Calls Try.prog 57 #[.pointer (some ⟨a.m, 0, none⟩), .int .i64 (k : Nat), .bool put, .agg #[.int .i64 t.s, .int .i64 t.w], .int .i64 t.v] w fun e w' => ∃ z : Option Addr × Nat, e = .returned (.tuple #[]) ∧
      Mem ⟨0, blks [netB a fast nS pr.length L.length nE y x, entOwn Fq.enc 8 84 (some ⟨a.gP, 0, none⟩) a.cP pr, entOwn Fl.enc 9 134 y.1 y.2 L], w⟩ w' [netB a fast nS (prS k rd put t pr A n c pd).length (L ++ newF (k : Nat) (rd + 1) put t nS).length nE z x, entOwn Fq.enc 8 84 (some ⟨a.gP, 0, none⟩) a.cP (prS k rd put t pr A n c pd), entOwn Fl.enc 9 134 z.1 z.2 (L ++ newF (k : Nat) (rd + 1) put t nS)] := by
  generalize blks [netB a fast nS pr.length L.length nE y x, entOwn Fq.enc 8 84 (some ⟨a.gP, 0, none⟩) a.cP pr, entOwn Fl.enc 9 134 y.1 y.2 L] = F at hM ⊢
  obtain ⟨am, gS, cS, gP, cP⟩ := a
  obtain ⟨AE, cE⟩ := x
  obtain ⟨AL, cL⟩ := y
  obtain ⟨ts, tw, tv⟩ := t
  have hpk1 : pr[k]? = some _ := (List.getElem?_eq_getElem hk).trans (congrArg some hpk)
  have hpl : (prS k rd put ⟨ts, tw, tv⟩ pr A n c pd).length = pr.length := by simp [prS]
  rw [hpl]
  refine calls_T F Try.func57 rfl Try.ntmps57 (by simp) (hM.anyN _) ?_
  dsimp only
  have hS0 : (nS : Int) ≤ 5 := by omega
  obtain ⟨p1, hp1⟩ : ∃ p1, prS k rd put ⟨ts, tw, tv⟩ pr A n c pd = p1 := ⟨_, rfl⟩
  rw [hp1]
  repeat' (first
    | ((with_reducible refine T_cutIf 5 (X := Nat) (fun g => [(0, .pointer (some ⟨am, 0, none⟩)), (1, .int .i64 (k : Nat)), (2, .bool put), (4, .int .i64 tv), (8, .pointer (some ⟨g, 0, none⟩)), (10, .pointer (some ⟨gP, k * 8, none⟩))]) (fun g => [entBlk am 79 #[.bool fast, .slice (some ⟨gS, 0, none⟩) nS cS, .slice (some ⟨gP, 0, none⟩) pr.length cP, .slice AL L.length cL, .slice AE nE cE], entOwn Fq.enc 8 84 (some ⟨gP, 0, none⟩) cP p1, entOwn Fl.enc 9 134 AL cL L, entBlk g 82 #[.int .i64 ts, .int .i64 tw]]) (fun _ => True) ?_ ?_))
    | ((first | with_reducible (first | apply TL_q | apply TD_q0 | apply TD_q1 | apply TD_q2 | apply TD_q3) | ((with_reducible (first | apply TD_q0y | apply TD_q1y)); exact rfl; exact rfl; (with_reducible exact rfl))); exact QSarm_SvB; exact rfl) | ((with_reducible (first | apply TD_e2z | apply TD_e3z | apply TL_e | apply TD_e2 | apply TD_e3)); exact ESarm_SvB; (first | exact rfl | exact ⟨rfl, rfl, rfl⟩); (first | (rintro _ _ ⟨rfl, rfl⟩) | (rintro _ _ ⟨g, rfl, rfl⟩) | (rintro _ _ ⟨A', c', rfl, rfl⟩)); (try refine ⟨SUB, ?_⟩)) | (refine GO ?_) | (refine GOE ?_; (first | (rintro _ _ ⟨rfl, rfl⟩) | (rintro _ _ ⟨g, rfl, rfl⟩) | (rintro _ _ ⟨A', c', rfl, rfl⟩))) | ((refine GO2 ?_ ?_) <;> intro h <;> (try (repeat (first | with_reducible (replace h := of_decide_eq_true h) | with_reducible (replace h := of_decide_eq_false h) | with_reducible (replace h := bnt h) | with_reducible (replace h := bnf h) | with_reducible (replace h := Int.not_lt.mp h) | with_reducible (replace h := Int.not_le.mp h) | with_reducible (replace h := band_dec h) | with_reducible (replace h := band_decF h) | with_reducible (replace h := bor_dec h) | with_reducible (replace h := bor_decF h)))) <;> (try (exfalso; first | contradiction | omega))) | fail)
  · subst h
    have e1 : p1 = pr.set k ⟨⟨A, n, c⟩, pd, rd + 1, true, 0, ts, tw, tv⟩ := by rw [← hp1]; rfl
    apply At_cut g
    case hp => exact trivial
    case hE => (repeat (first | exact SubE.nil _ | refine SubE.cons rfl ?_))
    case hS =>
      intro w hw
      simp only [List.set_set] at hw
      rw [e1]
      exact hw.sel (by (repeat (first | exact Sel.nil _ | (apply Sel.cons; (repeat (first | with_reducible exact Pick.here _ _ | with_reducible apply Pick.there))))))
  · subst h
    have e1 : p1 = pr.set k ⟨⟨A, n, c⟩, pd, rd + 1, false, 0, -1, -1, 0⟩ := by rw [← hp1]; rfl
    apply At_cut g
    case hp => exact trivial
    case hE => (repeat (first | exact SubE.nil _ | refine SubE.cons rfl ?_))
    case hS =>
      intro w hw
      simp only [List.set_set] at hw
      rw [e1]
      exact hw.sel (by (repeat (first | exact Sel.nil _ | (apply Sel.cons; (repeat (first | with_reducible exact Pick.here _ _ | with_reducible apply Pick.there))))))
  rintro g8 -
  have hl1 : p1.length = pr.length := by rw [← hp1]; exact hpl
  have hk1 : k < p1.length := by omega
  have hpk2 : p1[k] = ⟨⟨A, n, c⟩, pd, rd + 1, put, 0, if put = true then ts else -1, if put = true then tw else -1, if put = true then tv else 0⟩ := by subst hp1; simp [prS]
  clear hpk hpk1 hp1 hpl
  have hpk := hpk2
  have hk0 := hk
  have hk := hk1
  obtain ⟨NF, hNF⟩ : ∃ f : Nat → List Fl, f = newF (k : Nat) (rd + 1) put ⟨ts, tw, tv⟩ := ⟨_, rfl⟩
  rw [← hNF]
  have hN0 : NF 0 = [] := by rw [hNF]; rfl
  have hNs : ∀ j, NF (j + 1) = NF j ++ [⟨(k : Nat), rd + 1, (j : Nat), put, ts, tw, tv, false, false⟩] := fun j => by rw [hNF]; exact newF_succ _ _ _ _ _
  have hNl : ∀ j, (NF j).length = j := fun j => by rw [hNF]; simp [newF]
  clear hNF
  repeat' (first | ((first | with_reducible (first | apply TL_q | apply TD_q0 | apply TD_q1 | apply TD_q2 | apply TD_q3) | ((with_reducible (first | apply TD_q0y | apply TD_q1y)); exact rfl; exact rfl; (with_reducible exact rfl))); exact QSarm_SvB; exact rfl) | ((with_reducible (first | apply TD_e2z | apply TD_e3z | apply TL_e | apply TD_e2 | apply TD_e3)); exact ESarm_SvB; (first | exact rfl | exact ⟨rfl, rfl, rfl⟩); (first | (rintro _ _ ⟨rfl, rfl⟩) | (rintro _ _ ⟨g, rfl, rfl⟩) | (rintro _ _ ⟨A', c', rfl, rfl⟩)); (try refine ⟨SUB, ?_⟩)) | (refine GO ?_) | (refine GOE ?_; (first | (rintro _ _ ⟨rfl, rfl⟩) | (rintro _ _ ⟨g, rfl, rfl⟩) | (rintro _ _ ⟨A', c', rfl, rfl⟩))) | ((refine GO2 ?_ ?_) <;> intro h <;> (try (repeat (first | with_reducible (replace h := of_decide_eq_true h) | with_reducible (replace h := of_decide_eq_false h) | with_reducible (replace h := bnt h) | with_reducible (replace h := bnf h) | with_reducible (replace h := Int.not_lt.mp h) | with_reducible (replace h := Int.not_le.mp h) | with_reducible (replace h := band_dec h) | with_reducible (replace h := band_decF h) | with_reducible (replace h := bor_dec h) | with_reducible (replace h := bor_decF h)))) <;> (try (exfalso; first | contradiction | omega))) | fail)
  refine T_loop (X := Nat × (Option Addr × Nat)) (fun x => [(53, .int .i64 (x.1 : Nat)), (52, .int .i64 (nS : Nat)), (0, .pointer (some ⟨am, 0, none⟩)), (1, .int .i64 (k : Nat)), (2, .bool put), (4, .int .i64 tv), (8, .pointer (some ⟨g8, 0, none⟩)), (10, .pointer (some ⟨gP, k * 8, none⟩))])
    (fun x => [entBlk am 79 #[.bool fast, .slice (some ⟨gS, 0, none⟩) nS cS, .slice (some ⟨gP, 0, none⟩) pr.length cP, .slice x.2.1 (L ++ NF x.1).length x.2.2, .slice AE nE cE], entOwn Fq.enc 8 84 (some ⟨gP, 0, none⟩) cP p1, entOwn Fl.enc 9 134 x.2.1 x.2.2 (L ++ NF x.1), entBlk g8 82 #[.int .i64 ts, .int .i64 tw]])
    (fun x => x.1 ≤ nS) (fun x => nS - x.1) (0, (AL, cL)) (by (try dsimp only); omega) (by (repeat (first | exact SubE.nil _ | refine SubE.cons rfl ?_))) (fun w' hw => by
      dsimp only
      rw [hN0, List.append_nil]
      exact hw.sel (by (repeat (first | exact Sel.nil _ | (apply Sel.cons; (repeat (first | with_reducible exact Pick.here _ _ | with_reducible apply Pick.there))))))) ?_
  rintro ⟨j, ⟨A1, c1⟩⟩ hj
  dsimp only at hj ⊢
  have hll : (L ++ NF j).length ≤ 10005 := by rw [List.length_append, hNl]; omega
  by_cases hlt : j < nS
  · have hnj := hNs j
    clear hNs hN0 hNl
    have happ : L ++ NF (j + 1) = (L ++ NF j) ++ [⟨(k : Nat), rd + 1, (j : Nat), put, ts, tw, tv, false, false⟩] := by rw [hnj, List.append_assoc]
    generalize L ++ NF j = L1 at *
    repeat' (first | ((first | with_reducible (first | apply TL_q | apply TD_q0 | apply TD_q1 | apply TD_q2 | apply TD_q3) | ((with_reducible (first | apply TD_q0y | apply TD_q1y)); exact rfl; exact rfl; (with_reducible exact rfl))); exact QSarm_SvB; exact rfl) | ((with_reducible (first | apply TD_e2z | apply TD_e3z | apply TL_e | apply TD_e2 | apply TD_e3)); exact ESarm_SvB; (first | exact rfl | exact ⟨rfl, rfl, rfl⟩); (first | (rintro _ _ ⟨rfl, rfl⟩) | (rintro _ _ ⟨g, rfl, rfl⟩) | (rintro _ _ ⟨A', c', rfl, rfl⟩)); (try refine ⟨SUB, ?_⟩)) | (refine GG ?_) | (refine GE ?_; (first | (rintro _ _ ⟨rfl, rfl⟩) | (rintro _ _ ⟨g, rfl, rfl⟩) | (rintro _ _ ⟨A', c', rfl, rfl⟩)); (try refine ⟨SUB, ?_⟩)) | ((refine GO2 ?_ ?_) <;> intro h <;> (try (repeat (first | with_reducible (replace h := of_decide_eq_true h) | with_reducible (replace h := of_decide_eq_false h) | with_reducible (replace h := bnt h) | with_reducible (replace h := bnf h) | with_reducible (replace h := Int.not_lt.mp h) | with_reducible (replace h := Int.not_le.mp h) | with_reducible (replace h := band_dec h) | with_reducible (replace h := band_decF h) | with_reducible (replace h := bor_dec h) | with_reducible (replace h := bor_decF h)))) <;> (try (exfalso; first | contradiction | omega))) | (refine GOF ?_ ?_) | ((with_reducible apply T_draw (id := 10) 16 (OT.seq [(0, 0), (0, 1), (0, 2), (0, 3), (0, 5), (0, 6), (0, 7), (0, 8), (0, 10), (0, 11), (0, 13), (1, 4), (1, 9), (1, 12), (0, 14), (2, 15), (3, 16), (0, 17), (0, 18), (3, 19)] .nil)); kernel_rfl; exact rfl; kernel_rfl; (repeat (first | with_reducible exact Blind.body | with_reducible apply Blind.seq | with_reducible apply Blind.block))) | ((with_reducible (first | apply TD_e2z | apply TD_e3z | apply TL_e | apply TD_e2 | apply TD_e3)); ((with_reducible apply ES_append1 (enc := Fl.enc) (xx := (⟨(k : Nat), rd + 1, (j : Nat), put, ts, tw, tv, false, false⟩ : Fl))); exact rfl; exact rfl; (repeat (first | with_reducible exact List.mem_cons_self | with_reducible apply List.mem_cons_of_mem)); exact rfl; exact fun _ => rfl; exact fun _ => rfl; (intro A' c'; first | ((repeat (first | with_reducible exact Upd.here _ _ _ | with_reducible apply Upd.there)); done) | (repeat (first | exact Upd.here _ _ _ | apply Upd.there))); (omega); decide; exact rfl); (first | exact rfl | exact ⟨rfl, rfl, rfl⟩); (rintro _ _ ⟨A', c', rfl, rfl⟩); (try refine ⟨SUB, ?_⟩)) | fail)
    all_goals first | (exfalso; omega) | skip
    apply At_rounds (j + 1, (A', c'))
    case hE => (repeat (first | exact SubE.nil _ | refine SubE.cons rfl ?_))
    case hS =>
      intro w' hw
      dsimp only
      rw [happ]
      exact hw.sel (by (repeat (first | exact Sel.nil _ | (apply Sel.cons; (repeat (first | with_reducible exact Pick.here _ _ | with_reducible apply Pick.there))))))
    case hμ => (try dsimp only); omega
    case hp => exact hlt
  · obtain rfl : j = nS := by omega
    repeat' (first | ((first | with_reducible (first | apply TL_q | apply TD_q0 | apply TD_q1 | apply TD_q2 | apply TD_q3) | ((with_reducible (first | apply TD_q0y | apply TD_q1y)); exact rfl; exact rfl; (with_reducible exact rfl))); exact QSarm_SvB; exact rfl) | ((with_reducible (first | apply TD_e2z | apply TD_e3z | apply TL_e | apply TD_e2 | apply TD_e3)); exact ESarm_SvB; (first | exact rfl | exact ⟨rfl, rfl, rfl⟩); (first | (rintro _ _ ⟨rfl, rfl⟩) | (rintro _ _ ⟨g, rfl, rfl⟩) | (rintro _ _ ⟨A', c', rfl, rfl⟩)); (try refine ⟨SUB, ?_⟩)) | (refine GO ?_) | (refine GOE ?_; (first | (rintro _ _ ⟨rfl, rfl⟩) | (rintro _ _ ⟨g, rfl, rfl⟩) | (rintro _ _ ⟨A', c', rfl, rfl⟩))) | ((refine GO2 ?_ ?_) <;> intro h <;> (try (repeat (first | with_reducible (replace h := of_decide_eq_true h) | with_reducible (replace h := of_decide_eq_false h) | with_reducible (replace h := bnt h) | with_reducible (replace h := bnf h) | with_reducible (replace h := Int.not_lt.mp h) | with_reducible (replace h := Int.not_le.mp h) | with_reducible (replace h := band_dec h) | with_reducible (replace h := band_decF h) | with_reducible (replace h := bor_dec h) | with_reducible (replace h := bor_decF h)))) <;> (try (exfalso; first | contradiction | omega))) | fail)
    all_goals first | (exfalso; omega) | skip
    (refine At_retN Try.results57 rfl (fun w' hw => ?_))
    exact ⟨(A1, c1), rfl, (hw.anyN 0).sel (by (repeat (first | exact Sel.nil _ | (apply Sel.cons; (repeat (first | with_reducible exact Pick.here _ _ | with_reducible apply Pick.there))))))⟩
end
section
variable (a : NLc) (fast : Bool) (nS nL : Nat) (x : Option Addr × Nat) (pr : List Fq) (evs : List Ev) (y : Option Addr × Nat) (k n0 : Nat) (w : World) (hk : k < pr.length)
  (b o n c : Nat) (pd : Bool) (rd : Int) (pu : Bool) (rp bs bw bv : Int) (hpk : pr[k] = ⟨⟨some ⟨b, o, none⟩, n, c⟩, pd, rd, pu, rp, bs, bw, bv⟩) (hrd : 0 ≤ rd) (hrd2 : rd ≤ 10000)
include hk hpk hrd hrd2
@[reducible] def hd1 (b o n c : Nat) : Hd := ⟨some ⟨b, if c = 1 then o else o + 1 * 3, none⟩, n - 1, c - 1⟩
set_option maxRecDepth 100000 in
set_option maxHeartbeats 4000000 in
theorem resp_any (h0 : 0 < n) (he : evs.length ≤ 10000) (v : Int)
    (hM : Mem ⟨n0, blks [netB a fast nS pr.length nL evs.length y x, entOwn Fq.enc 8 84 (some ⟨a.gP, 0, none⟩) a.cP pr, entOwn Ev.enc 4 34 x.1 x.2 evs], w⟩ w [netB a fast nS pr.length nL evs.length y x, entOwn Fq.enc 8 84 (some ⟨a.gP, 0, none⟩) a.cP pr, entOwn Ev.enc 4 34 x.1 x.2 evs]) :
    Calls Try.prog 81 #[.pointer (some ⟨a.m, 0, none⟩), .int .i64 (k : Nat), .int .i64 v] w fun e w' => ∃ z : Option Addr × Nat, e = .returned (.tuple #[]) ∧
      Mem ⟨0, blks [netB a fast nS pr.length nL evs.length y x, entOwn Fq.enc 8 84 (some ⟨a.gP, 0, none⟩) a.cP pr, entOwn Ev.enc 4 34 x.1 x.2 evs], w⟩ w' [netB a fast nS pr.length nL (evs ++ [(⟨(k : Nat), 0, 0, v⟩ : Ev)]).length y z, entOwn Fq.enc 8 84 (some ⟨a.gP, 0, none⟩) a.cP (pr.set k ⟨hd1 b o n c, false, rd + 1, pu, rp, bs, bw, bv⟩), entOwn Ev.enc 4 34 z.1 z.2 (evs ++ [(⟨(k : Nat), 0, 0, v⟩ : Ev)])] := by
  have hpk1 : pr[k]? = some _ := (List.getElem?_eq_getElem hk).trans (congrArg some hpk)
  generalize blks [netB a fast nS pr.length nL evs.length y x, entOwn Fq.enc 8 84 (some ⟨a.gP, 0, none⟩) a.cP pr, entOwn Ev.enc 4 34 x.1 x.2 evs] = F at hM ⊢
  obtain ⟨am, gS, cS, gP, cP⟩ := a
  obtain ⟨AE, cE⟩ := x
  obtain ⟨AL, cL⟩ := y
  have hrw : IntKind.i64.wrap (rd + 1) = rd + 1 := IntWalk.i64_in _ ⟨by omega, by omega⟩
  refine calls_T F Try.func81 rfl Try.ntmps81 (by simp) (hM.anyN _) ?_
  dsimp only
  repeat' (first | ((first | with_reducible (first | apply TL_q | apply TD_q0 | apply TD_q1 | apply TD_q2 | apply TD_q3) | ((with_reducible (first | apply TD_q0y | apply TD_q1y)); exact rfl; exact rfl; (with_reducible exact rfl))); exact QSarm_SvB; exact rfl) | ((with_reducible (first | apply TD_e2z | apply TD_e3z | apply TL_e | apply TD_e2 | apply TD_e3)); exact ESarm_SvB; (first | exact rfl | exact ⟨rfl, rfl, rfl⟩); (first | (rintro _ _ ⟨rfl, rfl⟩) | (rintro _ _ ⟨g, rfl, rfl⟩) | (rintro _ _ ⟨A', c', rfl, rfl⟩)); (try refine ⟨SUB, ?_⟩)) | (refine GG ?_) | (refine GE ?_; (first | (rintro _ _ ⟨rfl, rfl⟩) | (rintro _ _ ⟨g, rfl, rfl⟩) | (rintro _ _ ⟨A', c', rfl, rfl⟩)); (try refine ⟨SUB, ?_⟩)) | ((refine GO2 ?_ ?_) <;> intro h <;> (try (repeat (first | with_reducible (replace h := of_decide_eq_true h) | with_reducible (replace h := of_decide_eq_false h) | with_reducible (replace h := bnt h) | with_reducible (replace h := bnf h) | with_reducible (replace h := Int.not_lt.mp h) | with_reducible (replace h := Int.not_le.mp h) | with_reducible (replace h := band_dec h) | with_reducible (replace h := band_decF h) | with_reducible (replace h := bor_dec h) | with_reducible (replace h := bor_decF h)))) <;> (try (exfalso; first | contradiction | omega))) | (refine GOF ?_ ?_) | fail | ((with_reducible (first | apply TD_e2z | apply TD_e3z | apply TL_e | apply TD_e2 | apply TD_e3)); ((with_reducible apply ES_append1 (enc := Ev.enc) (xx := (⟨(k : Nat), 0, 0, v⟩ : Ev))); exact rfl; exact rfl; (repeat (first | with_reducible exact List.mem_cons_self | with_reducible apply List.mem_cons_of_mem)); exact rfl; exact fun _ => rfl; exact fun _ => rfl; (intro A' c'; first | ((repeat (first | with_reducible exact Upd.here _ _ _ | with_reducible apply Upd.there)); done) | (repeat (first | exact Upd.here _ _ _ | apply Upd.there))); (omega); decide; exact rfl); (first | exact rfl | exact ⟨rfl, rfl, rfl⟩); (rintro _ _ ⟨A', c', rfl, rfl⟩); (try refine ⟨SUB, ?_⟩)) | fail)
  (refine At_retN Try.results81 rfl (fun w' hw => ?_))
  refine ⟨(A', c'), rfl, ?_⟩
  have h9 := hw.anyN 0
  simp only [List.set_set, hrw] at h9
  exact h9.sel (by (repeat (first | exact Sel.nil _ | (apply Sel.cons; (repeat (first | with_reducible exact Pick.here _ _ | with_reducible apply Pick.there))))))
end
end Go.Proofs.Ytaonijdhmgcbjaa
