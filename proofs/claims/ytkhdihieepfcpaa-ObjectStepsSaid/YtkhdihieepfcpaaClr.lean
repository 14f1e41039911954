/- clear of the end of a slice of one's own. No condition. -/
import Derived.Test.YtkhdihieepfcpaaW
namespace Go.Proofs.Ytkhdihieepfcpaa
open Go.RowKit

theorem flat_take {α : Type} {enc : α → List Value} {M : Nat} (hM : ∀ x, (enc x).length = M) : ∀ (ls : List α) (i : Nat), i ≤ ls.length → (ls.take i).flatMap enc = (ls.flatMap enc).take (i * M)
  | ls, 0, _ => by simp
  | [], i + 1, h => by simp at h
  | x :: ls, i + 1, h => by
    have ih := flat_take hM ls i (by simpa using h)
    rw [List.take_succ_cons, List.flatMap_cons, List.flatMap_cons, ih, show (i + 1) * M = M + i * M by rw [Nat.succ_mul]; omega]
    rw [List.take_append, List.take_of_length_le (l := enc x) (by rw [hM]; omega), hM, show M + i * M - M = i * M by omega]
theorem zeroCells_mem {zs : Array Value} {n : Nat} {u : Value} (h : u ∈ (Builtin.zeroCells zs n).toList) : u ∈ zs.toList := by
  unfold Builtin.zeroCells at h
  simp only [Array.toList_map, List.mem_map] at h
  obtain ⟨j, hj, rfl⟩ := h
  by_cases h0 : zs.size = 0
  · simp [h0] at hj
  · have hlt : j % zs.size < zs.size := Nat.mod_lt _ (by omega)
    rw [getElem!_pos zs (j % zs.size) hlt]
    simp
section
variable {P : Program} {C : Ctx} {E : Slots} {S S' : List Ent} {ty t g c M e i p n k bytes : Nat} {ps : String} {af : Array Edge} {g0 : Option (Nat × Bool)} {x : Operand} {z : Value} {α : Type} {enc : α → List Value} {ls : List α}
theorem ES_none {op : Op} (Φ : List Ent → Prop)
    (hr : ∀ a w, Env C.n a E → Mem C w S → ∃ v w' S', (execOp a.eval ⟨none, op, ty, ps, af, g0⟩).run P w = .ok (.value v) w' ∧ Mem C w' S' ∧ Φ S') : ES P C E S ⟨none, op, ty, ps, af, g0⟩ (fun E' S' => Φ S' ∧ E' = E) := by
  intro a w K Q ha hw hK
  obtain ⟨v, w', S', h1, h2, h3⟩ := hr a w ha hw
  unfold Oper.wp
  rw [h1]
  exact hK _ _ _ _ ⟨h3, rfl⟩ (ha.putNone v) h2
theorem ES_clearTail [hs : SliceOf P t e M] [hi : InfoOf P e z M bytes] [hz : ZeroOf P e z] (hx : evo E x = some (.slice (some ⟨g, p, none⟩) n k)) (hu : Upd S (entOwn enc M e (some ⟨g, 0, none⟩) c ls) (entOwn enc M e (some ⟨g, 0, none⟩) c (ls.take i)) S')
    (hM : ∀ x, (enc x).length = M) (hn : n = ls.length - i) (hil : i ≤ ls.length) (hp : i < ls.length → p = i * M) (h1 : z.cells.toList.all (·.oneCell') = true) :
    ES P C E S ⟨none, .call ⟨.builtin .clear, #[x], #[t]⟩, ty, ps, af, g0⟩ (fun E' T => E' = E ∧ T = S') := by
  refine (ES_none (fun T => T = S') (fun a w ha hw => ?_)).weak (by rintro _ _ ⟨rfl, rfl⟩; exact ⟨rfl, rfl⟩)
  have ho : Own enc M e w 0 (.slice (some ⟨g, 0, none⟩) ls.length c) ls := (hw.holds _ hu.mem).1
  obtain ⟨g', cap, cur, hv, hbb, hg, hnc, hcm, hcs, htake⟩ := ho.2.resolve_left (by simp)
  simp only [Value.slice.injEq, Option.some.injEq, Addr.mk.injEq, and_true, true_and] at hv
  obtain ⟨rfl, rfl⟩ := hv
  have run : ∀ w', (Builtin.clear_ #[t] ty #[.slice (some ⟨g, p, none⟩) n k]).run P w = .ok (.tuple #[]) w' → (execOp a.eval ⟨none, .call ⟨.builtin .clear, #[x], #[t]⟩, ty, ps, af, g0⟩).run P w = .ok (.value (.tuple #[])) w' := by
    intro w' h
    simp [execOp, resolve, invoke, builtin, ha.evo hx, h]
  by_cases h0 : n = 0
  · subst h0
    have hi' : i = ls.length := by omega
    refine ⟨.tuple #[], w, S', run _ (by simp [Builtin.clear_, run_underlying hs.und]), ?_, rfl⟩
    refine hw.upd hu (Keeps.refl [] w) (by simp) (fun j hj => ?_) ?_
    · have hj' : some g = some j := hj
      cases hj'
      exact ⟨(Array.getElem?_eq_some_iff.1 hg).1, .inl rfl⟩
    · subst hi'
      rw [List.take_length]
      exact ho
  · have hlt : i < ls.length := by omega
    obtain rfl := hp hlt
    have hzs : (Builtin.zeroCells z.cells n).size = n * M := by simp [Builtin.zeroCells, hi.zsize]
    have hiM : i * M + n * M = ls.length * M := by rw [← Nat.add_mul]; congr 1; omega
    have hnM : ls.length * M ≤ c * M := Nat.mul_le_mul_right _ hnc
    have hfit : i * M + (Builtin.zeroCells z.cells n).toList.length ≤ cur.size := by rw [Array.length_toList, hzs, hcs]; omega
    have hst := run_storeCells_at P g (i * M) e (Builtin.zeroCells z.cells n).toList 0 cur w hg (by simpa using hfit) (fun u hu => List.all_eq_true.1 h1 u (zeroCells_mem hu))
    simp only [Nat.add_zero] at hst
    have hcl : (cur.toList.take (i * M) ++ (Builtin.zeroCells z.cells n).toList ++ cur.toList.drop (i * M + (Builtin.zeroCells z.cells n).toList.length)).length = cur.size := by
      simp only [List.length_append, List.length_take, List.length_drop, Array.length_toList] at hfit ⊢; omega
    obtain ⟨m, hm⟩ : ∃ m, n = m + 1 := ⟨n - 1, by omega⟩
    refine ⟨.tuple #[], w.setRow g (cur.toList.take (i * M) ++ (Builtin.zeroCells z.cells n).toList ++ cur.toList.drop (i * M + (Builtin.zeroCells z.cells n).toList.length)).toArray, S', run _ ?_, ?_, rfl⟩
    · subst hm
      simp only [Builtin.clear_, List.getElem?_toArray, List.getElem?_cons_zero, run_underlying hs.und, Sem.run_bind, Result.andThen_ok, hz.run w, hst, Sem.run_pure]
    · refine hw.upd hu (Keeps.setRow w g _) (by simp [entOwn, Value.ownBlock]) (fun j hj => ?_) ?_
      · have hj' : some g = some j := hj
        cases hj'
        exact ⟨by simpa using (Array.getElem?_eq_some_iff.1 hg).1, .inl rfl⟩
      · have hli : (ls.take i).length = i := by rw [List.length_take]; omega
        show Own enc M e _ 0 (.slice (some ⟨g, 0, none⟩) (ls.take i).length c) (ls.take i)
        refine ⟨flat_len hM _, .inr ⟨g, c, _, rfl, Nat.zero_le _, setRow_heap w g cur _ e _ hg, by omega, hcm, ?_, ?_⟩⟩
        · simp only [List.size_toArray]; rw [hcl, hcs]
        · rw [flat_take hM ls i hil, ← htake, hli]
          have l1 : (cur.toList.take (i * M)).length = i * M := by rw [List.length_take, Array.length_toList, hcs]; omega
          rw [List.take_take, Nat.min_eq_left (by omega), List.append_assoc, List.take_append, List.take_of_length_le (by rw [l1]; omega), l1, Nat.sub_self, List.take_zero, List.append_nil]
end
end Go.Proofs.Ytkhdihieepfcpaa
