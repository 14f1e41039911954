/- copy into a slice of one's own; math/bits.Mul. No condition. -/
import Derived.Test.YtkhdihieepfcpaaClr
import Derived.Shelf.Bits.Mul64
namespace Go.Proofs.Ytkhdihieepfcpaa
open Go.RowKit
section
variable {P : Program} {C : Ctx} {E : Slots} {S S' : List Ent} {ty t t2 d g c e p n k sn sk : Nat} {ps : String} {af : Array Edge} {g0 : Option (Nat × Bool)} {x y : Operand} {α : Type} {enc : α → List Value} {ls xs : List α} {ad : Addr}
theorem ES_copy {z : Value} {bytes : Nat} [hs : SliceOf P t e 1] [hi : InfoOf P e z 1 bytes] (hx : evo E x = some (.slice (some ⟨g, p, none⟩) n k)) (hy : evo E y = some (.slice (some ad) sn sk))
    (hl : ∀ w, Mem C w S → ∀ j v, (xs.flatMap enc)[j]? = some v → w.cell? (ad.add j) = some v)
    (hn : xs.length = min sn n) (hp : p + xs.length ≤ ls.length)
    (hu : Upd S (entOwn enc 1 e (some ⟨g, 0, none⟩) c ls) (entOwn enc 1 e (some ⟨g, 0, none⟩) c (ls.take p ++ xs ++ ls.drop (p + xs.length))) S')
    (hM : ∀ x, (enc x).length = 1) (h1 : ∀ x, (enc x).all (·.oneCell') = true) (hd : Nat.ble (d + 1) C.n = true) :
    ES P C E S ⟨some d, .call ⟨.builtin .copy, #[x, y], #[t, t2]⟩, ty, ps, af, g0⟩ (fun E' T => E' = (d, .int .i64 xs.length) :: E ∧ T = S') := by
  refine (ES_core (fun u T => u = .int .i64 xs.length ∧ T = S') (fun a w ha hw => ?_) hd).weak (by rintro _ _ ⟨_, ⟨rfl, rfl⟩, rfl⟩; exact ⟨rfl, rfl⟩)
  have ho : Own enc 1 e w 0 (.slice (some ⟨g, 0, none⟩) ls.length c) ls := (hw.holds _ hu.mem).1
  obtain ⟨g', cap, cur, hv, hbb, hg, hnc, hcm, hcs, htake⟩ := ho.2.resolve_left (by simp)
  simp only [Value.slice.injEq, Option.some.injEq, Addr.mk.injEq, and_true, true_and] at hv
  obtain ⟨rfl, rfl⟩ := hv
  have hfl : ∀ l : List α, (l.flatMap enc).length = l.length := fun l => by rw [flat_len hM, Nat.mul_one]
  have hfit : p + (xs.flatMap enc).length ≤ cur.size := by rw [hfl, hcs]; omega
  obtain ⟨i, hi0, hi1, hi2, hi3⟩ := hi.parts
  have hr := run_copy_row P w t t2 ty e g p n k ad sn sk cur e (xs.flatMap enc) hs.und (by rw [hi0]; exact congrArg some hi2) hg (by rw [hfl]; exact hn) (hl w hw) hfit (fun u hu' => by
    obtain ⟨q, hq, hqu⟩ := List.mem_flatMap.1 hu'
    exact List.all_eq_true.1 (h1 q) u hqu)
  refine ⟨.int .i64 xs.length, w.setRow g (cur.toList.take p ++ xs.flatMap enc ++ cur.toList.drop (p + (xs.flatMap enc).length)).toArray, S', ?_, ?_, rfl, rfl⟩
  · rw [hfl] at hr ⊢
    simp [execOp, resolve, invoke, builtin, ha.evo hx, ha.evo hy, hr, goInt]

  · refine hw.upd hu (Keeps.setRow w g _) (by simp [entOwn, Value.ownBlock]) (fun j hj => ?_) ?_
    · have hj' : some g = some j := hj
      cases hj'
      exact ⟨by simpa using (Array.getElem?_eq_some_iff.1 hg).1, .inl rfl⟩
    · have hlen : (ls.take p ++ xs ++ ls.drop (p + xs.length)).length = ls.length := by
        simp only [List.length_append, List.length_take, List.length_drop]; omega
      show Own enc 1 e _ 0 (.slice (some ⟨g, 0, none⟩) (ls.take p ++ xs ++ ls.drop (p + xs.length)).length c) (ls.take p ++ xs ++ ls.drop (p + xs.length))
      refine ⟨flat_len hM _, .inr ⟨g, c, _, rfl, Nat.zero_le _, setRow_heap w g cur _ e _ hg, by rw [hlen]; exact hnc, hcm, ?_, ?_⟩⟩
      · simp only [List.size_toArray, List.length_append, List.length_take, List.length_drop, Array.length_toList] at hfit ⊢; omega
      · have e1 : (ls.take p ++ xs ++ ls.drop (p + xs.length)).flatMap enc = (ls.flatMap enc).take p ++ xs.flatMap enc ++ (ls.flatMap enc).drop (p + xs.length) := by
          rw [List.flatMap_append, List.flatMap_append]
          have t1 := flat_take hM ls p (by omega)
          have t2 : ∀ (l : List α) (i : Nat), (l.drop i).flatMap enc = (l.flatMap enc).drop i := by
            intro l i
            induction l generalizing i with
            | nil => simp
            | cons x l ih =>
              cases i with
              | zero => simp
              | succ i =>
                have e0 : (enc x).drop (i + 1) = [] := List.drop_eq_nil_of_le (by rw [hM]; omega)
                rw [List.drop_succ_cons, ih, List.flatMap_cons, List.drop_append, e0, hM, Nat.add_sub_cancel, List.nil_append]
          rw [t1, t2, Nat.mul_one]
        rw [e1, hlen, hfl, Nat.mul_one, ← htake, Nat.mul_one]
        have hc1 : cur.toList.length = c := by rw [Array.length_toList, hcs, Nat.mul_one]
        have l1 : (cur.toList.take p).length = p := by rw [List.length_take]; omega
        have l2 : (cur.toList.take p ++ xs.flatMap enc).length = p + xs.length := by rw [List.length_append, l1, hfl]
        show List.take ls.length (cur.toList.take p ++ xs.flatMap enc ++ cur.toList.drop (p + xs.length)) = _
        rw [List.take_append, List.take_of_length_le (by rw [l2]; omega), l2, List.take_take, Nat.min_eq_left (by omega), List.drop_take]
end
end Go.Proofs.Ytkhdihieepfcpaa
