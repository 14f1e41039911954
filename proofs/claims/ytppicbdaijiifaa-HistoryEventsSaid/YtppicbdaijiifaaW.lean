/- Whole items of a list of one's own, written. No condition. -/
import Derived.Test.YtppicbdaijiifaaS
set_option linter.unusedSimpArgs false
set_option linter.unusedVariables false
set_option linter.unusedSectionVars false
set_option linter.unnecessarySimpa false
namespace Go.Proofs.Ytppicbdaijiifaa
open Go.RowKit
theorem flat_setW {α : Type} {enc : α → List Value} {M : Nat} (hM : ∀ x, (enc x).length = M) (xx : α) : ∀ (ls : List α) (j : Nat), j < ls.length →
    (ls.set j xx).flatMap enc = (ls.flatMap enc).take (j * M) ++ enc xx ++ (ls.flatMap enc).drop (j * M + M)
  | [], _, h => by simp at h
  | x :: ls, 0, _ => by
    simp only [List.set_cons_zero, List.flatMap_cons, Nat.zero_mul, List.take_zero, List.nil_append, Nat.zero_add]
    rw [List.drop_append, List.drop_eq_nil_of_le (by rw [hM]; exact Nat.le_refl _), hM, Nat.sub_self]
    simp
  | x :: ls, j + 1, h => by
    have ih := flat_setW hM xx ls j (by simpa using h)
    have e : (j + 1) * M = M + j * M := by rw [Nat.succ_mul]; omega
    simp only [List.set_cons_succ, List.flatMap_cons, ih, e]
    have t1 : List.take (M + j * M) (enc x ++ ls.flatMap enc) = enc x ++ (ls.flatMap enc).take (j * M) := by
      rw [List.take_append, List.take_of_length_le (l := enc x) (by rw [hM]; omega), hM, show M + j * M - M = j * M by omega]
    have t2 : List.drop (M + j * M + M) (enc x ++ ls.flatMap enc) = (ls.flatMap enc).drop (j * M + M) := by
      rw [List.drop_append, List.drop_of_length_le (l := enc x) (by rw [hM]; omega), hM, show M + j * M + M - M = j * M + M by omega, List.nil_append]
    rw [t1, t2]
    simp
section
variable {P : Program} {C : Ctx} {E : Slots} {S S' : List Ent} {ty s g c M e j : Nat} {ps : String} {af : Array Edge} {g0 : Option (Nat × Bool)} {x y : Operand} {α : Type} {enc : α → List Value} {ls : List α}
theorem ES_storeOwnAgg [hs : AggOf P s M] {xx : α} {us : List Value} (hx : evo E x = some (.pointer (some ⟨g, j * M, none⟩))) (hy : evo E y = some (.agg us.toArray)) (he : us = enc xx)
    (hu : Upd S (entOwn enc M e (some ⟨g, 0, none⟩) c ls) (entOwn enc M e (some ⟨g, 0, none⟩) c (ls.set j xx)) S') (hM : ∀ x, (enc x).length = M) (hj : j < ls.length) (h1 : (enc xx).all (·.oneCell') = true) :
    ES P C E S ⟨none, .store s x y, ty, ps, af, g0⟩ (fun E' T => E' = E ∧ T = S') := by
  subst he
  refine (ES_skip (fun T => T = S') (fun a w ha hw => ?_)).weak (by rintro _ _ ⟨rfl, rfl⟩; exact ⟨rfl, rfl⟩)
  have ho : Own enc M e w 0 (.slice (some ⟨g, 0, none⟩) ls.length c) ls := (hw.holds _ hu.mem).1
  obtain ⟨g', cap, cur, hv, hbb, hg, hnc, hcm, hcs, htake⟩ := ho.2.resolve_left (by simp)
  simp only [Value.slice.injEq, Option.some.injEq, Addr.mk.injEq, and_true, true_and] at hv
  obtain ⟨rfl, rfl⟩ := hv
  have hjM : j * M + M ≤ ls.length * M := by rw [← Nat.succ_mul]; exact Nat.mul_le_mul_right _ hj
  have hnM : ls.length * M ≤ c * M := Nat.mul_le_mul_right _ hnc
  have hfit : j * M + (enc xx).length ≤ cur.size := by rw [hM, hcs]; omega
  have hst := run_storeCells_at P g (j * M) e (enc xx) 0 cur w hg (by simpa using hfit) (fun u hu => List.all_eq_true.1 h1 u hu)
  simp only [Nat.add_zero] at hst
  have hcl : (cur.toList.take (j * M) ++ enc xx ++ cur.toList.drop (j * M + (enc xx).length)).length = cur.size := by
    simp only [List.length_append, List.length_take, List.length_drop, Array.length_toList]; omega
  refine ⟨w.setRow g (cur.toList.take (j * M) ++ enc xx ++ cur.toList.drop (j * M + (enc xx).length)).toArray, S', ?_, ?_, rfl⟩
  · have hsz : (Value.agg (enc xx).toArray).cells.size = M := by simp [Value.cells, hM]
    simp only [execOp, ha.evo hx, ha.evo hy, Instr.storeAt, Instr.sureAddr, storeVar, Sem.run_bind, Sem.run_pure, Result.andThen_ok, hs.size w, hsz]
    simp [Value.cells, hst]
  · refine hw.upd hu (Keeps.setRow w g _) (by simp [entOwn, Value.ownBlock]) (fun k hk => ?_) ?_
    · have hk' : some g = some k := hk
      cases hk'
      exact ⟨by simpa using (Array.getElem?_eq_some_iff.1 hg).1, .inl rfl⟩
    · show Own enc M e _ 0 (.slice (some ⟨g, 0, none⟩) (ls.set j xx).length c) (ls.set j xx)
      refine ⟨flat_len hM _, .inr ⟨g, c, _, rfl, Nat.zero_le _, setRow_heap w g cur _ e _ hg, by simpa using hnc, hcm, ?_, ?_⟩⟩
      · simp only [List.size_toArray]; rw [hcl, hcs]
      · rw [flat_setW hM xx ls j hj]
        simp only [List.length_set]
        rw [← htake, hM]
        have l1 : (cur.toList.take (j * M)).length = j * M := by rw [List.length_take, Array.length_toList, hcs]; omega
        have l2 : (cur.toList.take (j * M) ++ enc xx).length = j * M + M := by rw [List.length_append, l1, hM]
        rw [List.take_append, List.take_of_length_le (by rw [l2]; omega), l2, List.take_take, Nat.min_eq_left (by omega), List.drop_take]
theorem QS_indexVal {cs : Array Value} {n e j : Nat} {k : IntKind} {v : Value} [hs : ArrayOf P s n e 1] [h1 : OneCell P e] (hx : evo E x = some (.agg cs)) (hy : evo E y = some (.int k (j : Nat))) (hj : j < n) (hv : nthV cs.toList j = some v) : QS P C E S (.index s x y) ty v :=
  QS.of (fun a w ha _ => by
    have hr : (Instr.index s (.agg cs) (.int k (j : Nat))).run P w = .ok v w := by
      unfold Instr.index
      have h0 : (asIntOf (.int k (j : Nat))).run P w = .ok (k, (j : Int)) w := rfl
      have hj' : 0 ≤ (j : Int) ∧ (j : Int) < (n : Int) := by omega
      have hc : cs[j]? = some v := by rw [← hv, ← nthV_eq]; simp
      simp only [Sem.run_bind, h0, Result.andThen_ok, run_underlying hs.und, if_pos hj', hs.size w, Int.toNat_natCast, Nat.mul_one, part, h1.agg w]
      simp [hc]
    simp [execOp, ha.evo hx, ha.evo hy, hr])
theorem ES_makeSliceL {t d bytes n : Nat} {z : Value} {k k' : IntKind} {z0 : α} {zz : Int} [hs : SliceOf P t e M] [hi : InfoOf P e z M bytes] (hx : evo E x = some (.int k zz)) (hy : evo E y = some (.int k' zz)) (hn : IntLit zz n) (hz : z.cells.toList = enc z0)
    (hb : n * bytes ≤ 140737488355328) (hb0 : 0 < bytes) (hd : Nat.ble (d + 1) C.n = true) :
    ES P C E S ⟨some d, .makeSlice t x y, ty, ps, af, g0⟩ (fun E' T => ∃ g, E' = (d, .slice (some ⟨g, 0, none⟩) n n) :: E ∧ T = entOwn enc M e (some ⟨g, 0, none⟩) n (List.replicate n z0) :: S) :=
  ES_makeSlice (by rw [hx, hn.eq]) (by rw [hy, hn.eq]) hz hb hb0 hd
end
end Go.Proofs.Ytppicbdaijiifaa
