/- Slices of one's own from a place on: what is cut off in front, and appending behind. No condition. -/
import Derived.Test.YtppicbdaijiifaaT5
import Derived.Deep.AppendSrc
set_option linter.unusedSimpArgs false
set_option linter.unusedVariables false
set_option linter.unusedSectionVars false
set_option linter.unnecessarySimpa false
namespace Go.Proofs.Ytppicbdaijiifaa
open Go.RowKit

section
variable {P : Program} (w : World)
theorem run_append_off (t ty e : TypeId) (i : TypeInfo) (z : Value) (ht : P.underlying t = some (.slice e)) (hi : P.info? e = some i) (hz : i.zero = some z) (hzs : z.cells.size = i.size)
    {g o c n p : Nat} {cur : Array Value} (hg : w.heap[g]? = some (.cells cur e (0, 0))) (hcs : cur.size = c * i.size) (hn : n ≤ c) (hcm : c ≤ maxLen) (ho : o ≤ n) (hp : o < c → p = o * i.size)
    (a : Addr) (m c1 : Nat) (news : List Value) (hm : 0 < m) (hl : news.length = m * i.size) (hnews : ∀ j u, news[j]? = some u → w.cell? (a.add j) = some u) (h1 : ∀ u ∈ news, u.oneCell' = true)
    (h63 : n - o + m ≤ maxLen) (hbytes : (n - o + m) * i.bytes ≤ 140737488355328) :
    ∃ w', w.grownBy w' (some g) ∧
      ((n + m ≤ c ∧ (Builtin.append_ #[t, t] ty #[.slice (some ⟨g, p, none⟩) (n - o) (c - o), .slice (some a) m c1]).run P w = .ok (.slice (some ⟨g, p, none⟩) (n - o + m) (c - o)) w' ∧
          w'.ownsRow 0 e i.size (.slice (some ⟨g, 0, none⟩) (n + m) c) (n + m) (cur.toList.take (n * i.size) ++ news)) ∨
       ∃ c', n - o + m ≤ c' ∧ (Builtin.append_ #[t, t] ty #[.slice (some ⟨g, p, none⟩) (n - o) (c - o), .slice (some a) m c1]).run P w = .ok (.slice (some ⟨w.heap.size, 0, none⟩) (n - o + m) c') w' ∧
          w'.ownsRow 0 e i.size (.slice (some ⟨w.heap.size, 0, none⟩) (n - o + m) c') (n - o + m) ((cur.toList.take (n * i.size)).drop (o * i.size) ++ news)) := by
  have hnc : n * i.size ≤ c * i.size := Nat.mul_le_mul_right _ hn
  have hon : o * i.size ≤ n * i.size := Nat.mul_le_mul_right _ ho
  have hsub : (n - o) * i.size = n * i.size - o * i.size := Nat.sub_mul ..
  have hlenx : (cur.toList.take (n * i.size) ++ news).length = (n + m) * i.size := by simp [hl, Nat.add_mul]; omega
  by_cases hroom : n + m ≤ c
  · have hpo := hp (by omega)
    have hfit : n * i.size + news.length ≤ cur.size := by rw [hl, hcs, ← Nat.add_mul]; exact Nat.mul_le_mul_right _ hroom
    have hf := run_firstCells_some (P := P) w i.size m a m c1 news hl hnews
    have hst := run_storeCells_at P g (n * i.size) e news 0 cur w hg (by simpa using hfit) h1
    simp only [Nat.add_zero] at hst
    have hadd : p + (n - o) * i.size = n * i.size := by rw [hpo, hsub]; omega
    have hro : n - o + m ≤ c - o := by omega
    refine ⟨w.setRow g (cur.toList.take (n * i.size) ++ news ++ cur.toList.drop (n * i.size + news.length)).toArray, ⟨rfl, rfl, rfl, by simp, fun k _ hk => setRow_other w g k _ (fun e => hk (by rw [e]))⟩, .inl ⟨hroom, ?_, hlenx, .inr ⟨g, c, _, rfl, Nat.zero_le _, setRow_heap w g cur _ e _ hg, hroom, hcm, ?_, ?_⟩⟩⟩
    · simp [Builtin.append_, run_underlying ht, sizeOf, typeInfo, hi, Builtin.lenOf, hro, hf, Addr.add_lit, hadd, hst]
    · simp only [List.size_toArray, List.length_append, List.length_take, List.length_drop, Array.length_toList]
      omega
    · rw [← hlenx]
      exact List.take_left
  · have holen : ((cur.toList.take (n * i.size)).drop (o * i.size)).length = (n - o) * i.size := by simp; omega
    have holds : ∀ j u, ((cur.toList.take (n * i.size)).drop (o * i.size))[j]? = some u → w.cell? ((⟨g, p, none⟩ : Addr).add j) = some u := by
      intro j u hu
      rw [List.getElem?_drop, List.getElem?_take] at hu
      split at hu
      · rename_i hlt
        have hoc : o < c := by
          rcases Nat.lt_or_ge o c with h | h
          · exact h
          · have : o = n := by omega
            subst this; omega
        rw [Addr.add_lit, hp hoc]
        unfold World.cell?
        simp only [hg]
        simpa using hu
      · cases hu
    have hr := run_append_grow (P := P) w t ty e i z ht hi hz ⟨g, p, none⟩ (n - o) (c - o) _ holen holds a m c1 news hl hnews (by omega) (by unfold maxLen at h63; omega) (growslice_fits (by omega) hbytes)
    have hge := grownCap_ge w (n - o + m) (c - o) e
    have hcm' : grownCap w (n - o + m) (c - o) e ≤ maxLen := grownCap_le_maxLen w (n - o + m) (c - o) e h63
    have hlen2 : ((cur.toList.take (n * i.size)).drop (o * i.size) ++ news).length = (n - o + m) * i.size := by rw [List.length_append, holen, hl, Nat.add_mul]
    refine ⟨w.drew.alloc (.cells (((cur.toList.take (n * i.size)).drop (o * i.size)).toArray ++ news.toArray ++ Builtin.zeroCells z.cells (grownCap w (n - o + m) (c - o) e - (n - o + m))) e), ⟨rfl, rfl, rfl, by simp, fun k hk _ => heap_alloc_old w.drew _ hk⟩, .inr ⟨_, hge, hr, hlen2, .inr ⟨w.heap.size, _, _, rfl, Nat.zero_le _, heap_alloc_new w.drew _, hge, hcm', ?_, ?_⟩⟩⟩
    · simp only [Array.size_append, List.size_toArray, size_zeroCells, hzs, holen, hl, ← Nat.add_mul]
      congr 1
      omega
    · simp only [Array.toList_append, List.append_assoc]
      rw [← List.append_assoc, ← hlen2]
      exact List.take_left
end
section
variable {P : Program} {C : Ctx} {Q : Exit → Act → World → Prop} {E : Slots} {S : List Ent} {l rest : List Oper}
variable {t m e M bytes d g p n c k o : Nat} {x y : Operand} {v z : Value} {ty : TypeId} {g0 : Option (Nat × Bool)} {ps : String} {af : Array Edge}
theorem QS_sliceLow [hs : SliceOf P t e m] {k : IntKind} {l : Nat} (hx : evo E x = some (.slice (some ⟨g, p, none⟩) n c)) (hy : evo E y = some (.int k (l : Nat))) (hl : l ≤ n) :
    QS P C E S (.slice t x (some y) none none) ty (.slice (some ⟨g, if c = l then p else p + l * m, none⟩) (n - l) (c - l)) :=
  QS.of (fun a w ha _ => by
    have he : P.elem t = e := by simp [Program.elem, hs.und]
    have hu : P.underlying t = some (.slice (P.elem t)) := by rw [he]; exact hs.und
    have hr := run_slice_l (P := P) (w := w) t (some ⟨g, p, none⟩) n c hu k (l : Int) (by omega) (by omega)
    rw [he, hs.size w] at hr
    simp only [Result.andThen_ok, Int.toNat_natCast] at hr
    have hv : sliced (some ⟨g, p, none⟩) l n c m = .slice (some ⟨g, if c = l then p else p + l * m, none⟩) (n - l) (c - l) := by
      unfold sliced
      split <;> simp [add_mk]
    rw [hv] at hr
    simp [execOp, ha.evo hx, ha.evo hy, run_sliceAt_slice (P := P) (w := w) t _ _ _ _ hu, hr])
/-- behind an append to what is left of a slice of one's own -/
theorem ES_appendOff [hs : SliceOf P t e M] [hi : InfoOf P e z M bytes] {α : Type} {enc : α → List Value} {ls xs : List α} {g p n c k o : Nat} {S' : Nat → Nat → List α → List Ent} (hx : evo E x = some (.slice (some ⟨g, p, none⟩) n k)) (hy : evo E y = some v)
    (hn : n = ls.length - o) (hk : k = c - o) (ho : o ≤ ls.length) (hp : o < c → p = o * M)
    (hl : Lies C S v xs.length (xs.flatMap enc)) (hxs : 0 < xs.length) (hM : ∀ x, (enc x).length = M) (h1 : ∀ x, (enc x).all (·.oneCell') = true)
    (hu : ∀ g' c' ls', Upd S (entOwn enc M e (some ⟨g, 0, none⟩) c ls) (entOwn enc M e (some ⟨g', 0, none⟩) c' ls') (S' g' c' ls')) (hb : (n + xs.length) * bytes ≤ 140737488355328) (hb0 : 0 < bytes) (hd : Nat.ble (d + 1) C.n = true) :
    ES P C E S ⟨some d, .call ⟨.builtin .append, #[x, y], #[t, t]⟩, ty, ps, af, g0⟩ (fun E' T => ∃ g' p' c' o' ls', ls'.drop o' = ls.drop o ++ xs ∧ o' ≤ ls'.length ∧ (o' < c' → p' = o' * M) ∧ ls'.length - o' = n + xs.length ∧
      E' = (d, .slice (some ⟨g', p', none⟩) (n + xs.length) (c' - o')) :: E ∧ T = S' g' c' ls') := by
  refine (ES_core (fun u T => ∃ g' p' c' o' ls', ls'.drop o' = ls.drop o ++ xs ∧ o' ≤ ls'.length ∧ (o' < c' → p' = o' * M) ∧ ls'.length - o' = n + xs.length ∧ u = .slice (some ⟨g', p', none⟩) (n + xs.length) (c' - o') ∧ T = S' g' c' ls') (fun a w ha hw => ?_) hd).weak (by
    rintro _ _ ⟨_, ⟨g', p', c', o', ls', h1, h2, h3, h4, rfl, rfl⟩, rfl⟩; exact ⟨g', p', c', o', ls', h1, h2, h3, h4, rfl, rfl⟩)
  have hown : Own enc M e w 0 (.slice (some ⟨g, 0, none⟩) ls.length c) ls := (hw.holds _ (hu 0 0 []).mem).1
  have hx' := ha.evo hx
  have hy' := ha.evo hy
  have run : ∀ r w', (Builtin.append_ #[t, t] ty #[.slice (some ⟨g, p, none⟩) n k, v]).run P w = .ok r w' → (execOp a.eval ⟨some d, .call ⟨.builtin .append, #[x, y], #[t, t]⟩, ty, ps, af, g0⟩).run P w = .ok (.value r) w' := by
    intro r w' h
    simp [execOp, resolve, invoke, builtin, hx', hy', h]
  have hml : n + xs.length ≤ maxLen := by
    have : n + xs.length ≤ (n + xs.length) * bytes := Nat.le_mul_of_pos_right _ hb0
    unfold maxLen; omega
  obtain ⟨i, hi0, hi1, hi2, hi3⟩ := hi.parts
  rcases hl with ⟨h0, _, _⟩ | ⟨ad, cy, rfl, hat⟩
  · omega
  rcases hown.2 with ⟨hv, _⟩ | ⟨g1, c1, cur, hv, _, hg, hnc, hcm, hcs, htake⟩
  · cases hv
  simp only [Value.slice.injEq, Option.some.injEq, Addr.mk.injEq, and_true, true_and] at hv
  obtain ⟨rfl, rfl⟩ := hv
  subst hn hk
  obtain ⟨w', hgr, hres⟩ := run_append_off (P := P) (ty := ty) w t e i z hs.und hi0 hi1 (by rw [hi.zsize, hi2]) hg (by rw [hi2]; exact hcs) hnc hcm ho (by rw [hi2]; exact hp) ad xs.length cy (xs.flatMap enc) hxs (by rw [hi2]; exact flat_len hM xs)
    (fun j u hu' => hat w hw j u hu') (fun u hu' => by
      obtain ⟨q, hq, hqu⟩ := List.mem_flatMap.1 hu'
      exact List.all_eq_true.1 (h1 q) u hqu) hml (by rw [hi3]; exact hb)
  rw [hi2] at hres
  rw [htake] at hres
  have hk : Keeps [g] w w' := ⟨hgr.os, hgr.tape, hgr.output, hgr.size, fun j hj hn => hgr.block j hj (fun e' => by
    cases e'; simp at hn)⟩
  have hlt : g < w.heap.size := (Array.getElem?_eq_some_iff.1 hg).1
  rcases hres with ⟨hroom, hr, ho2⟩ | ⟨c', hc', hr, ho2⟩
  · refine ⟨_, w', S' g c (ls ++ xs), run _ _ hr, ?_, g, p, c, o, ls ++ xs, ?_, by simp; omega, hp, by simp; omega, rfl, rfl⟩
    · refine hw.upd (hu g c (ls ++ xs)) hk (fun g' hg' => by simp at hg'; subst hg'; rfl) (fun g' hg' => ?_) ?_
      · have : some g = some g' := hg'
        cases this
        exact ⟨Nat.lt_of_lt_of_le hlt hgr.size, .inl rfl⟩
      · show Own enc M e w' 0 (.slice (some ⟨g, 0, none⟩) (ls ++ xs).length c) (ls ++ xs)
        unfold Own
        simpa using ho2
    · rw [List.drop_append_of_le_length ho]
  · have hfl : (ls.flatMap enc).drop (o * M) = (ls.drop o).flatMap enc := by
      conv => lhs; rw [← List.take_append_drop o ls, List.flatMap_append]
      rw [List.drop_append, List.drop_eq_nil_of_le (by rw [flat_len hM]; simp; exact Nat.mul_le_mul_right _ (by omega)), flat_len hM]
      simp [Nat.min_eq_left ho]
    refine ⟨_, w', S' w.heap.size c' (ls.drop o ++ xs), run _ _ hr, ?_, w.heap.size, 0, c', 0, ls.drop o ++ xs, by simp, by simp, by simp, by simp, rfl, rfl⟩
    · refine hw.upd (hu w.heap.size c' (ls.drop o ++ xs)) hk (fun g' hg' => by simp at hg'; subst hg'; rfl) (fun g' hg' => ?_) ?_
      · have : some w.heap.size = some g' := hg'
        cases this
        have := World.ownsRow.lt ho2 w.heap.size rfl
        exact ⟨this.2, .inr (Nat.le_refl _)⟩
      · show Own enc M e w' 0 (.slice (some ⟨w.heap.size, 0, none⟩) (ls.drop o ++ xs).length c') (ls.drop o ++ xs)
        unfold Own
        rw [hfl] at ho2
        simpa using ho2
end
end Go.Proofs.Ytppicbdaijiifaa
