/- Lemmas for the walks (T6, T7, M, F). No condition. -/
import Derived.Test.YtbhjljnbjomnhaaG03
import Derived.Deep.AppendSrc
import Derived.Test.YtbhjljnbjomnhaaG05
import Derived.WalkSpells
set_option linter.unusedSimpArgs false
set_option linter.unusedVariables false
set_option linter.unusedSectionVars false
set_option linter.unnecessarySimpa false
namespace Go.Proofs.Ytbhjljnbjomnhaa
open Go.RowKit

section
variable {P : Program} (w : World)
theorem run_append_off (t ty e : TypeId) (i : TypeInfo) (z : Value) (ht : P.underlying t = some (.slice e)) (hi : P.info? e = some i) (hz : i.zero = some z) (hzs : z.cells.size = i.size)
    {g o c n p : Nat} {cur : Array Value} (hg : w.heap[g]? = some (.cells cur e (0, 0))) (hcs : cur.size = c * i.size) (hn : n ≤ c) (hcm : c ≤ maxLen) (ho : o ≤ n) (hp : o < c → p = o * i.size)
    (a : Addr) (m c1 : Nat) (news : List Value) (hm : 0 < m) (hl : news.length = m * i.size) (hnews : ∀ j u, news[j]? = some u → w.cell? (a.add j) = some u) (h1 : ∀ u ∈ news, u.oneCell' = true)
    (h63 : n - o + m ≤ maxLen) (hbytes : (n - o + m) * i.bytes ≤ 140737488355328) :
    ∃ w', w.grownBy w' (some g) ∧
      ((n + m ≤ c ∧ (Builtin.append_ #[t, t] ty #[.slice (some ⟨g, p, none⟩) (n - o) (c - o), .slice (some a) m c1]).run P w = .ok (.slice (some ⟨g, p, none⟩) (n - o + m) (c - o)) w' ∧
          w'.ownsRow 0 e i.size (.slice (some ⟨g, 0, none⟩) (n + m) c) (n + m) (cur.toList.take (n * i.size) ++ news)) ∨
       ∃ c', n - o + m ≤ c' ∧ (Builtin.append_ #[t, t] ty #[.slice (some ⟨g, p, none⟩) (n - o) (c - o), .slice (some a) m c1]).run P w = .ok (.slice (some ⟨w.heap.size, 0, none⟩) (n - o + m) c') w' ∧
          w'.ownsRow 0 e i.size (.slice (some ⟨w.heap.size, 0, none⟩) (n - o + m) c') (n - o + m) ((cur.toList.take (n * i.size)).drop (o * i.size) ++ news)) := by
  have hnc : n * i.size ≤ c * i.size := Nat.mul_le_mul_right _ hn
  have hon : o * i.size ≤ n * i.size := Nat.mul_le_mul_right _ ho
  have hsub : (n - o) * i.size = n * i.size - o * i.size := Nat.sub_mul ..
  have hlenx : (cur.toList.take (n * i.size) ++ news).length = (n + m) * i.size := by simp [hl, Nat.add_mul]; omega
  by_cases hroom : n + m ≤ c
  · have hpo := hp (by omega)
    have hfit : n * i.size + news.length ≤ cur.size := by rw [hl, hcs, ← Nat.add_mul]; exact Nat.mul_le_mul_right _ hroom
    have hf := run_firstCells_some (P := P) w i.size m a m c1 news hl hnews
    have hst := run_storeCells_at P g (n * i.size) e news 0 cur w hg (by simpa using hfit) h1
    simp only [Nat.add_zero] at hst
    have hadd : p + (n - o) * i.size = n * i.size := by rw [hpo, hsub]; omega
    have hro : n - o + m ≤ c - o := by omega
    refine ⟨w.setRow g (cur.toList.take (n * i.size) ++ news ++ cur.toList.drop (n * i.size + news.length)).toArray, ⟨rfl, rfl, rfl, by simp, fun k _ hk => setRow_other w g k _ (fun e => hk (by rw [e]))⟩, .inl ⟨hroom, ?_, hlenx, .inr ⟨g, c, _, rfl, Nat.zero_le _, setRow_heap w g cur _ e _ hg, hroom, hcm, ?_, ?_⟩⟩⟩
    · simp [Builtin.append_, run_underlying ht, sizeOf, typeInfo, hi, Builtin.lenOf, hro, hf, Addr.add_lit, hadd, hst]
    · simp only [List.size_toArray, List.length_append, List.length_take, List.length_drop, Array.length_toList]
      omega
    · rw [← hlenx]
      exact List.take_left
  · have holen : ((cur.toList.take (n * i.size)).drop (o * i.size)).length = (n - o) * i.size := by simp; omega
    have holds : ∀ j u, ((cur.toList.take (n * i.size)).drop (o * i.size))[j]? = some u → w.cell? ((⟨g, p, none⟩ : Addr).add j) = some u := by
      intro j u hu
      rw [List.getElem?_drop, List.getElem?_take] at hu
      split at hu
      · rename_i hlt
        have hoc : o < c := by
          rcases Nat.lt_or_ge o c with h | h
          · exact h
          · have : o = n := by omega
            subst this; omega
        rw [Addr.add_lit, hp hoc]
        unfold World.cell?
        simp only [hg]
        simpa using hu
      · cases hu
    have hr := run_append_grow (P := P) w t ty e i z ht hi hz ⟨g, p, none⟩ (n - o) (c - o) _ holen holds a m c1 news hl hnews (by omega) (by unfold maxLen at h63; omega) (growslice_fits (by omega) hbytes)
    have hge := grownCap_ge w (n - o + m) (c - o) e
    have hcm' : grownCap w (n - o + m) (c - o) e ≤ maxLen := grownCap_le_maxLen w (n - o + m) (c - o) e h63
    have hlen2 : ((cur.toList.take (n * i.size)).drop (o * i.size) ++ news).length = (n - o + m) * i.size := by rw [List.length_append, holen, hl, Nat.add_mul]
    refine ⟨w.drew.alloc (.cells (((cur.toList.take (n * i.size)).drop (o * i.size)).toArray ++ news.toArray ++ Builtin.zeroCells z.cells (grownCap w (n - o + m) (c - o) e - (n - o + m))) e), ⟨rfl, rfl, rfl, by simp, fun k hk _ => heap_alloc_old w.drew _ hk⟩, .inr ⟨_, hge, hr, hlen2, .inr ⟨w.heap.size, _, _, rfl, Nat.zero_le _, heap_alloc_new w.drew _, hge, hcm', ?_, ?_⟩⟩⟩
    · simp only [Array.size_append, List.size_toArray, size_zeroCells, hzs, holen, hl, ← Nat.add_mul]
      congr 1
      omega
    · simp only [Array.toList_append, List.append_assoc]
      rw [← List.append_assoc, ← hlen2]
      exact List.take_left
end
section
variable {P : Program} {C : Ctx} {Q : Exit → Act → World → Prop} {E : Slots} {S : List Ent} {l rest : List Oper}
variable {t m e M bytes d g p n c k o : Nat} {x y : Operand} {v z : Value} {ty : TypeId} {g0 : Option (Nat × Bool)} {ps : String} {af : Array Edge}
theorem QS_sliceLow [hs : SliceOf P t e m] {k : IntKind} {l : Nat} (hx : evo E x = some (.slice (some ⟨g, p, none⟩) n c)) (hy : evo E y = some (.int k (l : Nat))) (hl : l ≤ n) :
    QS P C E S (.slice t x (some y) none none) ty (.slice (some ⟨g, if c = l then p else p + l * m, none⟩) (n - l) (c - l)) :=
  QS.of (fun a w ha _ => by
    have he : P.elem t = e := by simp [Program.elem, hs.und]
    have hu : P.underlying t = some (.slice (P.elem t)) := by rw [he]; exact hs.und
    have hr := run_slice_l (P := P) (w := w) t (some ⟨g, p, none⟩) n c hu k (l : Int) (by omega) (by omega)
    rw [he, hs.size w] at hr
    simp only [Result.andThen_ok, Int.toNat_natCast] at hr
    have hv : sliced (some ⟨g, p, none⟩) l n c m = .slice (some ⟨g, if c = l then p else p + l * m, none⟩) (n - l) (c - l) := by
      unfold sliced
      split <;> simp [add_mk]
    rw [hv] at hr
    simp [execOp, ha.evo hx, ha.evo hy, run_sliceAt_slice (P := P) (w := w) t _ _ _ _ hu, hr])
/-- behind an append to what is left of a slice of one's own -/
theorem ES_appendOff [hs : SliceOf P t e M] [hi : InfoOf P e z M bytes] {α : Type} {enc : α → List Value} {ls xs : List α} {g p n c k o : Nat} {S' : Nat → Nat → List α → List Ent} (hx : evo E x = some (.slice (some ⟨g, p, none⟩) n k)) (hy : evo E y = some v)
    (hn : n = ls.length - o) (hk : k = c - o) (ho : o ≤ ls.length) (hp : o < c → p = o * M)
    (hl : Lies C S v xs.length (xs.flatMap enc)) (hxs : 0 < xs.length) (hM : ∀ x, (enc x).length = M) (h1 : ∀ x, (enc x).all (·.oneCell') = true)
    (hu : ∀ g' c' ls', Upd S (entOwn enc M e (some ⟨g, 0, none⟩) c ls) (entOwn enc M e (some ⟨g', 0, none⟩) c' ls') (S' g' c' ls')) (hb : (n + xs.length) * bytes ≤ 140737488355328) (hb0 : 0 < bytes) (hd : Nat.ble (d + 1) C.n = true) :
    ES P C E S ⟨some d, .call ⟨.builtin .append, #[x, y], #[t, t]⟩, ty, ps, af, g0⟩ (fun E' T => ∃ g' p' c' o' ls', ls'.drop o' = ls.drop o ++ xs ∧ o' ≤ ls'.length ∧ (o' < c' → p' = o' * M) ∧ ls'.length - o' = n + xs.length ∧
      E' = (d, .slice (some ⟨g', p', none⟩) (n + xs.length) (c' - o')) :: E ∧ T = S' g' c' ls') := by
  refine (ES_core (fun u T => ∃ g' p' c' o' ls', ls'.drop o' = ls.drop o ++ xs ∧ o' ≤ ls'.length ∧ (o' < c' → p' = o' * M) ∧ ls'.length - o' = n + xs.length ∧ u = .slice (some ⟨g', p', none⟩) (n + xs.length) (c' - o') ∧ T = S' g' c' ls') (fun a w ha hw => ?_) hd).weak (by
    rintro _ _ ⟨_, ⟨g', p', c', o', ls', h1, h2, h3, h4, rfl, rfl⟩, rfl⟩; exact ⟨g', p', c', o', ls', h1, h2, h3, h4, rfl, rfl⟩)
  have hown : Own enc M e w 0 (.slice (some ⟨g, 0, none⟩) ls.length c) ls := (hw.holds _ (hu 0 0 []).mem).1
  have hx' := ha.evo hx
  have hy' := ha.evo hy
  have run : ∀ r w', (Builtin.append_ #[t, t] ty #[.slice (some ⟨g, p, none⟩) n k, v]).run P w = .ok r w' → (execOp a.eval ⟨some d, .call ⟨.builtin .append, #[x, y], #[t, t]⟩, ty, ps, af, g0⟩).run P w = .ok (.value r) w' := by
    intro r w' h
    simp [execOp, resolve, invoke, builtin, hx', hy', h]
  have hml : n + xs.length ≤ maxLen := by
    have : n + xs.length ≤ (n + xs.length) * bytes := Nat.le_mul_of_pos_right _ hb0
    unfold maxLen; omega
  obtain ⟨i, hi0, hi1, hi2, hi3⟩ := hi.parts
  rcases hl with ⟨h0, _, _⟩ | ⟨ad, cy, rfl, hat⟩
  · omega
  rcases hown.2 with ⟨hv, _⟩ | ⟨g1, c1, cur, hv, _, hg, hnc, hcm, hcs, htake⟩
  · cases hv
  simp only [Value.slice.injEq, Option.some.injEq, Addr.mk.injEq, and_true, true_and] at hv
  obtain ⟨rfl, rfl⟩ := hv
  subst hn hk
  obtain ⟨w', hgr, hres⟩ := run_append_off (P := P) (ty := ty) w t e i z hs.und hi0 hi1 (by rw [hi.zsize, hi2]) hg (by rw [hi2]; exact hcs) hnc hcm ho (by rw [hi2]; exact hp) ad xs.length cy (xs.flatMap enc) hxs (by rw [hi2]; exact flat_len hM xs)
    (fun j u hu' => hat w hw j u hu') (fun u hu' => by
      obtain ⟨q, hq, hqu⟩ := List.mem_flatMap.1 hu'
      exact List.all_eq_true.1 (h1 q) u hqu) hml (by rw [hi3]; exact hb)
  rw [hi2] at hres
  rw [htake] at hres
  have hk : Keeps [g] w w' := ⟨hgr.os, hgr.tape, hgr.output, hgr.size, fun j hj hn => hgr.block j hj (fun e' => by
    cases e'; simp at hn)⟩
  have hlt : g < w.heap.size := (Array.getElem?_eq_some_iff.1 hg).1
  rcases hres with ⟨hroom, hr, ho2⟩ | ⟨c', hc', hr, ho2⟩
  · refine ⟨_, w', S' g c (ls ++ xs), run _ _ hr, ?_, g, p, c, o, ls ++ xs, ?_, by simp; omega, hp, by simp; omega, rfl, rfl⟩
    · refine hw.upd (hu g c (ls ++ xs)) hk (fun g' hg' => by simp at hg'; subst hg'; rfl) (fun g' hg' => ?_) ?_
      · have : some g = some g' := hg'
        cases this
        exact ⟨Nat.lt_of_lt_of_le hlt hgr.size, .inl rfl⟩
      · show Own enc M e w' 0 (.slice (some ⟨g, 0, none⟩) (ls ++ xs).length c) (ls ++ xs)
        unfold Own
        simpa using ho2
    · rw [List.drop_append_of_le_length ho]
  · have hfl : (ls.flatMap enc).drop (o * M) = (ls.drop o).flatMap enc := by
      conv => lhs; rw [← List.take_append_drop o ls, List.flatMap_append]
      rw [List.drop_append, List.drop_eq_nil_of_le (by rw [flat_len hM]; simp; exact Nat.mul_le_mul_right _ (by omega)), flat_len hM]
      simp [Nat.min_eq_left ho]
    refine ⟨_, w', S' w.heap.size c' (ls.drop o ++ xs), run _ _ hr, ?_, w.heap.size, 0, c', 0, ls.drop o ++ xs, by simp, by simp, by simp, by simp, rfl, rfl⟩
    · refine hw.upd (hu w.heap.size c' (ls.drop o ++ xs)) hk (fun g' hg' => by simp at hg'; subst hg'; rfl) (fun g' hg' => ?_) ?_
      · have : some w.heap.size = some g' := hg'
        cases this
        have := World.ownsRow.lt ho2 w.heap.size rfl
        exact ⟨this.2, .inr (Nat.le_refl _)⟩
      · show Own enc M e w' 0 (.slice (some ⟨w.heap.size, 0, none⟩) (ls.drop o ++ xs).length c') (ls.drop o ++ xs)
        unfold Own
        rw [hfl] at ho2
        simpa using ho2
end
end Go.Proofs.Ytbhjljnbjomnhaa

namespace Go.Proofs.Ytbhjljnbjomnhaa
open Go.RowKit

def natEnc (k : Nat) : List Value := [.int .i64 k]
/-- numbers, as they stand in an int -/
def wrEnc (k : Nat) : List Value := [.int .i64 (IntKind.i64.wrap k)]
def boolEnc (b : Bool) : List Value := [.bool b]
section
variable {P : Program} {C : Ctx} {Q : Exit → Act → World → Prop} {E : Slots} {S S' : List Ent} {l rest : List Oper}
variable {d ty ty2 ty3 : Nat} {ps : String} {af : Array Edge} {g0 : Option (Nat × Bool)} {x y : Operand} {v u z : Value} {s t e m M bytes g c n : Nat} {A : Option Addr} {cs : Array Value}
/-- a block whole, as a list -/
theorem Mem.asOwn {α : Type} {enc : α → List Value} {w : World} (ls : List α) (hu : Upd S (entBlk g e cs) (entOwn enc M e (some ⟨g, 0, Option.none⟩) ls.length ls) S') (hcs : cs.toList = ls.flatMap enc) (hM : ∀ x, (enc x).length = M) (hl : ls.length ≤ maxLen) (hw : Mem C w S) : Mem C w S' := by
  have hb : Blk w g e cs := (hw.holds _ hu.mem).1
  refine hw.upd hu (Keeps.refl [] w) (by simp) (fun k hk => ?_) ?_
  · have : some g = some k := hk
    cases this
    exact ⟨hb.lt, .inl rfl⟩
  · show Own enc M e w 0 (.slice (some ⟨g, 0, Option.none⟩) ls.length ls.length) ls
    refine ⟨flat_len hM ls, .inr ⟨g, ls.length, cs, rfl, Nat.zero_le _, hb, Nat.le_refl _, hl, ?_, ?_⟩⟩
    · have := congrArg List.length hcs
      rw [flat_len hM] at this
      simpa using this
    · rw [hcs, List.take_of_length_le (by rw [flat_len hM]; exact Nat.le_refl _)]
theorem Mem.ownLe {α : Type} {enc : α → List Value} {ls : List α} {w : World} (hw : Mem C w S) (hm : entOwn enc M e A c ls ∈ S) : ls.length ≤ c := by
  have ho : Own enc M e w 0 (.slice A ls.length c) ls := (hw.holds _ hm).1
  rcases ho.2 with ⟨hv, _⟩ | ⟨g, cap, cur, hv, _, _, hnc, _⟩
  · simp only [Value.slice.injEq] at hv; omega
  · simp only [Value.slice.injEq] at hv; omega
theorem T_ownLe {α : Type} {enc : α → List Value} {ls : List α} {code : Code} (hm : entOwn enc M e A c ls ∈ S) (h : ls.length ≤ c → T P C code Q E S) : T P C code Q E S :=
  ⟨fun a w ha hw => (h (hw.ownLe hm)).run a w ha hw⟩
theorem TL_ownLe {α : Type} {enc : α → List Value} {ls : List α} (hm : entOwn enc M e A c ls ∈ S) (h : ls.length ≤ c → TL P C l Q rest E S) : TL P C l Q rest E S :=
  ⟨fun a w ha hw => (h (hw.ownLe hm)).run a w ha hw⟩
theorem TL_own {α : Type} {enc : α → List Value} {ls : List α} (hm : entOwn enc M e A c ls ∈ S) (hl : 0 < ls.length) (h : ∀ g, A = some ⟨g, 0, none⟩ → TL P C l Q rest E S) : TL P C l Q rest E S :=
  ⟨fun a w ha hw => by
    have ho : Own enc M e w 0 (.slice A ls.length c) ls := (hw.holds _ hm).1
    rcases ho.2 with ⟨hn, h0⟩ | ⟨g, cap, cur, hv, _⟩
    · omega
    · simp only [Value.slice.injEq] at hv
      exact (h g hv.1).run a w ha hw⟩
theorem TL_mem (hS : ∀ w, Mem C w S → Mem C w S') (h : TL P C l Q rest E S') : TL P C l Q rest E S := ⟨fun a w ha hw => h.run a w ha (hS w hw)⟩
/-- one item appended, out of a literal -/
theorem ES_append1 {α : Type} {enc : α → List Value} {gy cy ty' : Nat} {xx : α} {ls : List α} [hs : SliceOf P t e M] [hi : InfoOf P e z M bytes] {S' : Option Addr → Nat → List Ent} (hx : evo E x = some (.slice A ls.length c)) (hy : evo E y = some (.slice (some ⟨gy, 0, none⟩) 1 cy))
    (hm : entBlk gy ty' cs ∈ S) (hcs : cs.toList = enc xx) (hM : ∀ x, (enc x).length = M) (h1 : ∀ x, (enc x).all (·.oneCell') = true)
    (hu : ∀ A' c', Upd S (entOwn enc M e A c ls) (entOwn enc M e A' c' (ls ++ [xx])) (S' A' c')) (hb : (ls.length + 1) * bytes ≤ 140737488355328) (hb0 : 0 < bytes) (hd : Nat.ble (d + 1) C.n = true) :
    ES P C E S ⟨some d, .call ⟨.builtin .append, #[x, y], #[t, t]⟩, ty, ps, af, g0⟩ (fun E' T => ∃ A' c', E' = (d, .slice A' (ls ++ [xx]).length c') :: E ∧ T = S' A' c') :=
  ES_append (xs := [xx]) hx hy (by have := Lies.blk (C := C) (n := 1) (c := cy) hm; rw [hcs] at this; simpa using this) hM h1 hu hb hb0 hd
/-! numbers that wrap -/
section
variable {k : IntKind} {a b : Int} (hx : evo E x = some (.int k a)) (hy : evo E y = some (.int k b))
include hx hy
theorem QS_addW : QS P C E S (.binOp .add ty2 x y ty3) ty (.int k (k.wrap (a + b))) := QS.of (fun _ w ha _ => binInt ha hx hy _ (by simp [binOp, Op.intArith]))
theorem QS_subW : QS P C E S (.binOp .sub ty2 x y ty3) ty (.int k (k.wrap (a - b))) := QS.of (fun _ w ha _ => binInt ha hx hy _ (by simp [binOp, Op.intArith]))
theorem QS_mulW : QS P C E S (.binOp .mul ty2 x y ty3) ty (.int k (k.wrap (a * b))) := QS.of (fun _ w ha _ => binInt ha hx hy _ (by simp [binOp, Op.intArith]))
end
theorem i64_wrap_add (m n : Int) : IntKind.i64.wrap (IntKind.i64.wrap m + IntKind.i64.wrap n) = IntKind.i64.wrap (m + n) := by
  simp only [IntKind.wrap_i64]
  omega
theorem QS_addWW {a b : Int} (hx : evo E x = some (.int .i64 (IntKind.i64.wrap a))) (hy : evo E y = some (.int .i64 (IntKind.i64.wrap b))) : QS P C E S (.binOp .add ty2 x y ty3) ty (.int .i64 (IntKind.i64.wrap (a + b))) :=
  QS.of (fun _ w ha _ => binInt ha hx hy _ (by simp [binOp, Op.intArith, i64_wrap_add]))
/-! a slice, asked whether it is nil -/
section
variable [hs : SliceOf P t e m] (hx : evo E x = some (.slice A n c)) (hy : evo E y = some (.slice none 0 0))
include hs hx hy
theorem QS_eqlNil : QS P C E S (.binOp .eql t x y ty3) ty (.bool A.isNone) :=
  QS.of (fun a w ha _ => by
    have h2 := Lib.run_eql_slice_nil (P := P) w t e A n c 0 0 hs.und
    have hg : (eqGuard .eql t x y (.slice A n c) (.slice none 0 0)).run P w = .ok () w := by
      unfold eqGuard
      simp [run_underlying hs.und]
    simp only [execOp, ha.evo hx, ha.evo hy, Sem.run_bind, hg, Result.andThen_ok, h2]; rfl)
theorem QS_neqNil : QS P C E S (.binOp .neq t x y ty3) ty (.bool (!A.isNone)) :=
  QS.of (fun a w ha _ => by
    have h2 := run_neq_slice_nil_any (P := P) w t e A n c 0 0 hs.und
    have hg : (eqGuard .neq t x y (.slice A n c) (.slice none 0 0)).run P w = .ok () w := by
      unfold eqGuard
      simp [run_underlying hs.und]
    simp only [execOp, ha.evo hx, ha.evo hy, Sem.run_bind, hg, Result.andThen_ok, h2]; rfl)
end
/-- an empty literal -/
theorem ES_buildSlice0 {α : Type} (enc : α → List Value) [hs : SliceOf P t e m] (hd : Nat.ble (d + 1) C.n = true) : ES P C E S ⟨some d, .buildSlice t 0 #[], ty, ps, af, g0⟩ (fun E' S' => ∃ g, E' = (d, .slice (some ⟨g, 0, none⟩) 0 0) :: E ∧ S' = entOwn enc m e (some ⟨g, 0, none⟩) 0 [] :: S) := by
  refine (ES_core (fun u S' => ∃ g, u = .slice (some ⟨g, 0, none⟩) 0 0 ∧ S' = entOwn enc m e (some ⟨g, 0, none⟩) 0 [] :: S) (fun a w ha hw => ?_) hd).weak (by rintro _ _ ⟨_, ⟨g, rfl, rfl⟩, rfl⟩; exact ⟨g, rfl, rfl⟩)
  refine ⟨_, _, _, ?_, hw.alloc (.cells #[] e) (e := entOwn enc m e (some ⟨w.heap.size, 0, none⟩) 0 []) (fun _ h => h) ?_, _, rfl, rfl⟩
  · have e0 : (Array.range 0).map (fun _ => (default : Value)) = #[] := by simp [Array.range]
    simp [execOp, Instr.buildSlice, run_underlying hs.und, hs.size w, Instr.fill, newRow, e0]
  · show Own enc m e _ 0 (.slice (some ⟨w.heap.size, 0, none⟩) ([] : List α).length 0) []
    exact ⟨by simp, .inr ⟨w.heap.size, 0, #[], rfl, Nat.zero_le _, Blk.new _ _ _, Nat.le_refl _, by simp [maxLen], by simp, by simp⟩⟩
end

/-! results that lie in memory -/
section
variable {P : Program} {C : Ctx} {E : Slots} {S : List Ent}
inductive ResIs (P : Program) (C : Ctx) (E : Slots) (S : List Ent) : List ResultVar → List Value → Prop
  | nil : ResIs P C E S [] []
  | tmp {t : Nat} {v : Value} {r : List ResultVar} {vs : List Value} (hv : look t E = some v) (h : ResIs P C E S r vs) : ResIs P C E S (.tmp t :: r) (v :: vs)
  | cell {a t : Nat} {ad : Addr} {v : Value} {r : List ResultVar} {vs : List Value} (ha : look a E = some (.pointer (some ad))) (hl : Lds P C S t ad v) (h : ResIs P C E S r vs) : ResIs P C E S (.cell a t :: r) (v :: vs)
theorem results_is {fn : Func} {rs : List ResultVar} {vs : List Value} {a : Act} {w : World} (hfn : fn.results = rs.toArray) (ha : Env C.n a E) (hw : Mem C w S) (h : ResIs P C E S rs vs) : (results fn a.tmps).run P w = .ok (resVal vs) w := by
  have key : (rs.mapM (resG a.tmps)).run P w = .ok vs w := by
    induction h generalizing fn with
    | nil => simp
    | @tmp t v r vs hv _ ih =>
      have := ha.2.2 t v hv
      simp [List.mapM_cons, ih (fn := { fn with results := r.toArray }) rfl, resG, this]
    | @cell a' t ad v r vs hv hl _ ih =>
      have := ha.2.2 a' _ hv
      have h1 : (asAddr (Value.pointer (some ad))).run P w = .ok ad w := rfl
      simp [List.mapM_cons, ih (fn := { fn with results := r.toArray }) rfl, resG, this, h1, hl w hw]
  have e : results fn a.tmps = (do let vs ← fn.results.mapM (resG a.tmps); pure (if h : vs.size = 1 then vs[0] else .tuple vs)) := rfl
  rw [e, hfn]
  simp only [Array.mapM_eq_mapM_toList, Sem.run_bind, Sem.run_map, key]
  match vs with
  | [] => simp [resVal]
  | [v] => simp [resVal]
  | u :: v :: vs => simp [resVal]
theorem At_retM {fn : Func} {R : Ending → World → Prop} {rs : List ResultVar} {vs : List Value} (hfn : fn.results = rs.toArray) (hr : ResIs P C E S rs vs) (h : ∀ w, Mem C w S → R (.returned (resVal vs)) w) : At C (bodyPost P fn R .ret) E S :=
  ⟨fun a w ha hw => ⟨ha.1, _, results_is hfn ha hw hr, h w hw⟩⟩
end

end Go.Proofs.Ytbhjljnbjomnhaa

namespace Go.Proofs.Ytbhjljnbjomnhaa
open Go.RowKit

def intV (n : Int) : Value := .int .i64 n
def boolV (b : Bool) : Value := .bool b
def rowOfMap {α : Type} (enc : α → Value) (D : List (Int × α)) : List (Value × Value) := D.map fun p => (.int .i64 p.1, enc p.2)
/-- each entry has a stamp of its own, ahead of the clock -/
def BornOk (es : Array MapEntry) (cl : Nat) : Prop := (es.toList.map (·.born)).Nodup ∧ ∀ x ∈ es.toList, x.born < cl
def MapI {α : Type} (enc : α → Value) (w : World) (g : Nat) (D : List (Int × α)) : Prop :=
  ∃ es clock, w.heap[g]? = some (.map es clock) ∧ es.toList.map (fun e => (e.key, e.val)) = rowOfMap enc D ∧ BornOk es clock
theorem born_push {es : Array MapEntry} {cl : Nat} (h : BornOk es cl) (k v : Value) : BornOk (es.push { key := k, val := v, born := cl }) (cl + 1) := by
  refine ⟨?_, fun x hx => ?_⟩
  · rw [Array.toList_push, List.map_append, List.nodup_append]
    refine ⟨h.1, by simp, fun a ha b hb => ?_⟩
    obtain ⟨x, hx, rfl⟩ := List.mem_map.1 ha
    have := h.2 x hx
    simp at hb
    omega
  · rw [Array.toList_push] at hx
    rcases List.mem_append.1 hx with h1 | h1
    · have := h.2 x h1; omega
    · simp at h1; subst h1; exact Nat.lt_succ_self _
theorem born_modify {es : Array MapEntry} {cl : Nat} (h : BornOk es cl) (i : Nat) (f : MapEntry → MapEntry) (hf : ∀ x, (f x).born = x.born) : BornOk (es.modify i f) cl := by
  have e : (es.modify i f).toList.map (·.born) = es.toList.map (·.born) := by
    apply List.ext_getElem?
    intro j
    simp only [Array.toList_modify, List.getElem?_map, List.getElem?_modify]
    by_cases e : i = j
    · subst e; cases es.toList[i]? <;> simp [hf]
    · simp [if_neg e]
  refine ⟨by rw [e]; exact h.1, fun x hx => ?_⟩
  have h1 : x.born ∈ (es.modify i f).toList.map (·.born) := List.mem_map.2 ⟨x, hx, rfl⟩
  rw [e] at h1
  obtain ⟨y, hy, e2⟩ := List.mem_map.1 h1
  rw [← e2]
  exact h.2 y hy
def entMap {α : Type} (enc : α → Value) (g : Nat) (D : List (Int × α)) : Ent :=
  ⟨fun k => some g = some k, [g], fun k => by simp [eq_comm], fun w => MapI enc w g D, fun _ _ h hp => by
    obtain ⟨es, c, h1, h2⟩ := hp
    exact ⟨es, c, (h g rfl).trans h1, h2⟩⟩
/-- what a map holds behind m[k] = v -/
def putM {α : Type} : List (Int × α) → Int → α → List (Int × α)
  | [], k, v => [(k, v)]
  | p :: D, k, v => if k = p.1 then (k, v) :: D else p :: putM D k v
def lookM {α : Type} : List (Int × α) → Int → Option α
  | [], _ => none
  | p :: D, k => if k = p.1 then some p.2 else lookM D k
theorem lookM_put {α : Type} (k : Int) (v : α) (x : Int) : ∀ D : List (Int × α), lookM (putM D k v) x = if x = k then some v else lookM D x
  | [] => by simp [putM, lookM]
  | p :: D => by
    unfold putM
    split
    · rename_i h
      subst h
      simp only [lookM]
      split <;> rfl
    · rename_i h
      simp only [lookM, lookM_put k v x D]
      by_cases e : x = p.1
      · subst e; rw [if_pos rfl, if_neg (fun e => h e.symm), if_pos rfl]
      · rw [if_neg e, if_neg e]
def findD {α : Type} : List (Int × α) → Int → Nat → Option (Nat × α)
  | [], _, _ => none
  | p :: D, k, i => if k = p.1 then some (i, p.2) else findD D k (i + 1)
theorem findD_look {α : Type} (k : Int) : ∀ (D : List (Int × α)) (i : Nat), (findD D k i).map (·.2) = lookM D k
  | [], _ => rfl
  | p :: D, i => by simp only [findD, lookM]; split <;> simp [findD_look k D]
theorem findD_put {α : Type} (k : Int) (v : α) : ∀ (D : List (Int × α)) (i : Nat), match findD D k i with
    | some (j, _) => i ≤ j ∧ (∃ u, D[j - i]? = some (k, u)) ∧ putM D k v = D.modify (j - i) (fun _ => (k, v))
    | none => putM D k v = D ++ [(k, v)]
  | [], _ => rfl
  | p :: D, i => by
    simp only [findD]
    by_cases h : k = p.1
    · rw [if_pos h]
      refine ⟨Nat.le_refl _, ⟨p.2, by simp [h]⟩, by simp [putM, h]⟩
    · rw [if_neg h]
      have ih := findD_put k v D (i + 1)
      cases hf : findD D k (i + 1) with
      | none => rw [hf] at ih; simp only at ih ⊢; simp [putM, h, ih]
      | some q =>
        rw [hf] at ih
        obtain ⟨j, u⟩ := q
        simp only at ih ⊢
        obtain ⟨h1, ⟨u', h2⟩, h3⟩ := ih
        have e : j - i = (j - (i + 1)) + 1 := by omega
        refine ⟨by omega, ⟨u', by rw [e]; simpa using h2⟩, ?_⟩
        rw [e, List.modify_succ_cons, ← h3]
        simp [putM, h]
theorem findNow_int {α : Type} (enc : α → Value) (x : Int) : ∀ (es : List MapEntry) (D : List (Int × α)) (i : Nat), es.map (fun e => (e.key, e.val)) = rowOfMap enc D →
    Instr.findNow (.int .i64) (.int .i64 x) es i = some ((findD D x i).map fun p => (p.1, enc p.2))
  | [], [], _, _ => rfl
  | [], p :: D, _, h => by simp [rowOfMap] at h
  | e :: es, [], _, h => by simp [rowOfMap] at h
  | e :: es, p :: D, i, h => by
    simp only [rowOfMap, List.map_cons, List.cons.injEq, Prod.mk.injEq] at h
    obtain ⟨⟨h1, h2⟩, h3⟩ := h
    have ih := findNow_int enc x es D (i + 1) h3
    simp only [Instr.findNow, h1, Instr.sameNow, if_true, findD]
    by_cases hx : x = p.1
    · subst hx; simp [h2]
    · have : (x == p.1) = false := by simpa using hx
      rw [this, if_neg hx]
      exact ih
section
variable {P : Program} {C : Ctx} {Q : Exit → Act → World → Prop} {E : Slots} {S S' : List Ent}
variable {d ty ty2 ty3 : Nat} {ps : String} {af : Array Edge} {g0 : Option (Nat × Bool)} {x y m : Operand} {t k e g : Nat} {n : Int}
theorem run_checkKey [hm : MapOf P t k e] (b : Bool) (w : World) : (Instr.checkKey b 10000 k (.int .i64 n)).run P w = .ok () w := by
  unfold Instr.checkKey
  simp [run_underlying hm.key]
theorem run_findKey [hm : MapOf P t k e] {α : Type} (enc : α → Value) (es : List MapEntry) (D : List (Int × α)) (h : es.map (fun e => (e.key, e.val)) = rowOfMap enc D) (w : World) :
    (Instr.findKey k (.int .i64 n) es).run P w = .ok ((findD D n 0).map fun p => (p.1, enc p.2)) w := by
  unfold Instr.findKey
  simp [run_underlying hm.key, findNow_int enc n es D 0 h]
theorem run_lookup [hm : MapOf P t k e] {z : Value} [hz : ZeroOf P e z] {α : Type} {enc : α → Value} {z0 : α} (he : enc z0 = z) {D : List (Int × α)} {w : World} (hD : MapI enc w g D) (ok : Bool) :
    (Instr.lookup t (.map (some g)) (.int .i64 n) ok).run P w = .ok (if ok then .tuple #[enc ((lookM D n).getD z0), .bool (lookM D n).isSome] else enc ((lookM D n).getD z0)) w := by
  obtain ⟨es, cl, hg, hes, hbo⟩ := hD
  have hgo : (getObj g).run P w = .ok (.map es cl) w := by simp [getObj, Sem.run, hg]
  have h1 := run_checkKey (hm := hm) (n := n) es.isEmpty w
  have h2 := run_findKey (hm := hm) (n := n) enc es.toList D hes w
  have h3 := findD_look n D 0
  unfold Instr.lookup
  simp only [run_underlying hm.und, Sem.run_bind, Result.andThen_ok, hgo, Sem.run_pure, h1, h2]
  cases hf : findD D n 0 with
  | none =>
    rw [hf] at h3
    have h3' : lookM D n = none := h3.symm
    simp [hz.run w, h3', he]
  | some p =>
    rw [hf] at h3
    have h3' : lookM D n = some p.2 := h3.symm
    simp [h3']
/-- m[k] = v -/
theorem run_mapUpdate [hm : MapOf P t k e] {α : Type} {enc : α → Value} {D : List (Int × α)} {w : World} (hD : MapI enc w g D) (v : α) :
    ∃ w', (Instr.mapUpdate t (.map (some g)) (.int .i64 n) (enc v)).run P w = .ok () w' ∧ MapI enc w' g (putM D n v) ∧ Keeps [g] w w' := by
  obtain ⟨es, cl, hg, hes, hbo⟩ := hD
  have hlt : g < w.heap.size := (Array.getElem?_eq_some_iff.1 hg).1
  have hgo : (getObj g).run P w = .ok (.map es cl) w := by simp [getObj, Sem.run, hg]
  have h1 := run_checkKey (hm := hm) (n := n) false w
  have h2 := run_findKey (hm := hm) (n := n) enc es.toList D hes w
  have hput := findD_put n v D 0
  have hset : ∀ o : Obj, (setObj g o).run P w = .ok () { w with heap := w.heap.setIfInBounds g o } := fun o => by simp [setObj, Sem.run, hg]
  have hk : ∀ o : Obj, Keeps [g] w { w with heap := w.heap.setIfInBounds g o } := fun o => ⟨rfl, rfl, rfl, by simp, fun j _ hj => by
    simp only [List.mem_singleton] at hj
    exact Array.getElem?_setIfInBounds_ne (fun e => hj e.symm)⟩
  have hget : ∀ o : Obj, ({ w with heap := w.heap.setIfInBounds g o } : World).heap[g]? = some o := fun o => by simp [hlt]
  unfold Instr.mapUpdate
  simp only [run_underlying hm.und, Sem.run_bind, Result.andThen_ok, hgo, h1, h2]
  cases hf : findD D n 0 with
  | none =>
    rw [hf] at hput
    simp only [Option.map_none, hset]
    refine ⟨_, rfl, ⟨_, _, hget _, ?_, born_push hbo _ _⟩, hk _⟩
    rw [show putM D n v = D ++ [(n, v)] from hput]
    simp [rowOfMap] at hes ⊢
    exact hes
  | some p =>
    obtain ⟨i, u⟩ := p
    rw [hf] at hput
    simp only [Nat.sub_zero] at hput
    obtain ⟨_, ⟨u', hu⟩, hp⟩ := hput
    have hi : i < es.size := by
      have h4 := congrArg List.length hes
      have h5 := (List.getElem?_eq_some_iff.1 hu).1
      simp [rowOfMap] at h4
      omega
    have hkey : es[i].key = .int .i64 n := by
      have h6 : (es.toList.map fun e => (e.key, e.val))[i]? = some (es[i].key, es[i].val) := by simp [hi]
      rw [hes] at h6
      simp only [rowOfMap, List.getElem?_map, hu, Option.map_some, Option.some.injEq, Prod.mk.injEq] at h6
      exact h6.1.symm
    have hst : (Instr.keyThatStays (.int .i64 n) (.int .i64 n)).run P w = .ok (.int .i64 n) w := by
      unfold Instr.keyThatStays
      rw [if_pos (by simp [Instr.sameBits])]
      rfl
    simp only [Option.map_some, Array.getElem?_eq_getElem hi, Option.getD_some, hkey, Sem.run_bind, hst, Result.andThen_ok, hset]
    refine ⟨_, rfl, ⟨_, _, hget _, ?_, born_modify hbo _ _ (fun _ => rfl)⟩, hk _⟩
    rw [hp]
    apply List.ext_getElem?
    intro j
    have hj := congrArg (·[j]?) hes
    simp only [rowOfMap, List.getElem?_map] at hj ⊢
    rw [List.getElem?_modify]
    simp only [Array.toList_modify, List.getElem?_modify]
    by_cases e : i = j
    · subst e
      simp only [if_true, hu, Option.map_some]
      have : es.toList[i]? = some es[i] := by simp [hi]
      rw [this]; rfl
    · simp only [if_neg e]
      cases h7 : es.toList[j]? <;> cases h8 : D[j]? <;> rw [h7, h8] at hj <;> simp_all
theorem ES_makeMap {α : Type} (enc : α → Value) (hd : Nat.ble (d + 1) C.n = true) : ES P C E S ⟨some d, .makeMap t none, ty, ps, af, g0⟩ (fun E' S' => ∃ g, E' = (d, .map (some g)) :: E ∧ S' = entMap enc g [] :: S) := by
  refine (ES_core (fun u S' => ∃ g, u = .map (some g) ∧ S' = entMap enc g [] :: S) (fun a w ha hw => ?_) hd).weak (by rintro _ _ ⟨_, ⟨g, rfl, rfl⟩, rfl⟩; exact ⟨g, rfl, rfl⟩)
  refine ⟨_, _, _, ?_, hw.alloc (.map #[] 0) (e := entMap enc w.heap.size []) (fun _ h => h) ⟨#[], 0, heap_alloc_new w _, rfl, by simp [BornOk]⟩, _, rfl, rfl⟩
  simp [execOp, Instr.makeMap, newObj, Sem.run]
theorem ES_makeMapI [MapOf P t k e] [ZeroOf P e (.int .i64 0)] (hd : Nat.ble (d + 1) C.n = true) : ES P C E S ⟨some d, .makeMap t none, ty, ps, af, g0⟩ (fun E' S' => ∃ g, E' = (d, .map (some g)) :: E ∧ S' = entMap intV g [] :: S) := ES_makeMap intV hd
theorem ES_makeMapB [MapOf P t k e] [ZeroOf P e (.bool false)] (hd : Nat.ble (d + 1) C.n = true) : ES P C E S ⟨some d, .makeMap t none, ty, ps, af, g0⟩ (fun E' S' => ∃ g, E' = (d, .map (some g)) :: E ∧ S' = entMap boolV g [] :: S) := ES_makeMap boolV hd
section
variable [hm : MapOf P t k e] (hx : evo E m = some (.map (some g))) (hy : evo E x = some (.int .i64 n))
include hm hx
theorem QS_lenMap {α : Type} {enc : α → Value} {D : List (Int × α)} (hD : entMap enc g D ∈ S) : QS P C E S (.call ⟨.builtin .len, #[m], #[t]⟩) ty (.int .i64 D.length) := QS.of (fun a w ha hw => by
    obtain ⟨es, cl, hg, hes, _⟩ := (hw.holds _ hD).1
    have hgo : (getObj g).run P w = .ok (.map es cl) w := by simp [getObj, Sem.run, hg]
    have hl : es.size = D.length := by
      have := congrArg List.length hes
      simpa [rowOfMap] using this
    have hr : (Builtin.len_ #[t] ty #[.map (some g)]).run P w = .ok (.int .i64 D.length) w := by
      simp [Builtin.len_, run_underlying hm.und, hgo, hl, goInt]
    simp [execOp, resolve, invoke, builtin, ha.evo hx, hr])
include hy
theorem QS_lookI {D : List (Int × Int)} [hz : ZeroOf P e (.int .i64 0)] (hD : entMap intV g D ∈ S) : QS P C E S (.lookup t m x false) ty (.int .i64 ((lookM D n).getD 0)) :=
  QS.of (fun a w ha hw => by
    have h := run_lookup (hm := hm) (n := n) (enc := intV) (z0 := 0) rfl (hw.holds _ hD).1 false
    simp only [execOp, ha.evo hx, ha.evo hy, Sem.run_bind, h, Result.andThen_ok]; rfl)
theorem QS_lookIok {D : List (Int × Int)} [hz : ZeroOf P e (.int .i64 0)] (hD : entMap intV g D ∈ S) : QS P C E S (.lookup t m x true) ty (.tuple #[.int .i64 ((lookM D n).getD 0), .bool (lookM D n).isSome]) :=
  QS.of (fun a w ha hw => by
    have h := run_lookup (hm := hm) (n := n) (enc := intV) (z0 := 0) rfl (hw.holds _ hD).1 true
    simp only [execOp, ha.evo hx, ha.evo hy, Sem.run_bind, h, Result.andThen_ok]; rfl)
theorem QS_lookB {D : List (Int × Bool)} [hz : ZeroOf P e (.bool false)] (hD : entMap boolV g D ∈ S) : QS P C E S (.lookup t m x false) ty (.bool ((lookM D n).getD false)) :=
  QS.of (fun a w ha hw => by
    have h := run_lookup (hm := hm) (n := n) (enc := boolV) (z0 := false) rfl (hw.holds _ hD).1 false
    simp only [execOp, ha.evo hx, ha.evo hy, Sem.run_bind, h, Result.andThen_ok]; rfl)
theorem QS_lookBok {D : List (Int × Bool)} [hz : ZeroOf P e (.bool false)] (hD : entMap boolV g D ∈ S) : QS P C E S (.lookup t m x true) ty (.tuple #[.bool ((lookM D n).getD false), .bool (lookM D n).isSome]) :=
  QS.of (fun a w ha hw => by
    have h := run_lookup (hm := hm) (n := n) (enc := boolV) (z0 := false) rfl (hw.holds _ hD).1 true
    simp only [execOp, ha.evo hx, ha.evo hy, Sem.run_bind, h, Result.andThen_ok]; rfl)
theorem ES_mapUpdate {α : Type} {enc : α → Value} {D : List (Int × α)} {v : α} (hu : Upd S (entMap enc g D) (entMap enc g (putM D n v)) S') (hv : evo E y = some (enc v)) : ES P C E S ⟨none, .mapUpdate t m x y, ty, ps, af, g0⟩ (fun E' T => E' = E ∧ T = S') := by
  refine (ES_skip (fun T => T = S') (fun a w ha hw => ?_)).weak (by rintro _ _ ⟨rfl, rfl⟩; exact ⟨rfl, rfl⟩)
  obtain ⟨w', hr, hD', hk⟩ := run_mapUpdate (hm := hm) (n := n) (hw.holds _ hu.mem).1 v
  refine ⟨w', S', by simp [execOp, ha.evo hx, ha.evo hy, ha.evo hv, hr], ?_, rfl⟩
  refine hw.upd hu hk (by simp [entMap]) (fun k hk' => ?_) hD'
  have : some g = some k := hk'
  cases this
  obtain ⟨es, cl, hg, _⟩ := hD'
  exact ⟨(Array.getElem?_eq_some_iff.1 hg).1, .inl rfl⟩
end
end
end Go.Proofs.Ytbhjljnbjomnhaa

namespace Go.Proofs.Ytbhjljnbjomnhaa
open Go.RowKit

def blks : List Ent → List Nat
  | [] => []
  | e :: S => e.fin ++ blks S
theorem mem_blks {g : Nat} : ∀ {S : List Ent}, g ∈ blks S ↔ ∃ e ∈ S, e.has g
  | [] => by simp [blks]
  | e :: S => by
    have ih := mem_blks (g := g) (S := S)
    rw [blks, List.mem_append, ih, e.hfin]
    simp
section
variable {C : Ctx} {w w' : World} {S S1 S1' R : List Ent}
theorem Mem.anyN (h : Mem C w S) (n : Nat) : Mem ⟨n, C.F, C.w0⟩ w S := ⟨h.keeps, h.holds, h.apart⟩
/-- the part that a callee is handed -/
theorem Mem.self (n : Nat) (hw : Mem C w (S1 ++ R)) : Mem ⟨n, blks S1, w⟩ w S1 :=
  ⟨Keeps.refl _ _, fun e he => ⟨(hw.holds e (by simp [he])).1, fun g hg => ⟨((hw.holds e (by simp [he])).2 g hg).1, .inl (mem_blks.2 ⟨e, he, hg⟩)⟩⟩, (List.pairwise_append.1 hw.apart).1⟩
/-- what was there ahead of the call is none of its own blocks -/
theorem Mem.newBlk {b : Nat} (hw : Mem C w (S1 ++ R)) (hF : C.F = []) (hb : b < C.w0.heap.size) : b ∉ blks S1 := fun hm => by
  obtain ⟨e, he, hg⟩ := mem_blks.1 hm
  have := ((hw.holds e (by simp [he])).2 b hg).2
  rw [hF] at this
  rcases this with h | h
  · cases h
  · omega
/-- behind it the rest is as it was -/
theorem Mem.frame {n : Nat} (hw : Mem C w (S1 ++ R)) (ht : Mem ⟨n, blks S1, w⟩ w' S1') : Mem C w' (S1' ++ R) := by
  have hap := List.pairwise_append.1 hw.apart
  have hF : ∀ g ∈ blks S1, g < w.heap.size ∧ (g ∈ C.F ∨ C.w0.heap.size ≤ g) := fun g hg => by
    obtain ⟨e, he, hb⟩ := mem_blks.1 hg
    exact (hw.holds e (by simp [he])).2 g hb
  have hR : ∀ f ∈ R, ∀ g, f.has g → g ∉ blks S1 := fun f hf g hg hm => by
    obtain ⟨e, he, hb⟩ := mem_blks.1 hm
    exact hap.2.2 e he f hf g hb hg
  refine ⟨⟨ht.keeps.os.trans hw.keeps.os, ht.keeps.tape.trans hw.keeps.tape, ht.keeps.output.trans hw.keeps.output, Nat.le_trans hw.keeps.size ht.keeps.size, fun k hk hkF => ?_⟩, fun e he => ?_, ?_⟩
  · refine (ht.keeps.block k (Nat.lt_of_lt_of_le hk hw.keeps.size) fun hm => ?_).trans (hw.keeps.block k hk hkF)
    rcases (hF k hm).2 with h | h
    · exact hkF h
    · omega
  · rcases List.mem_append.1 he with he | he
    · obtain ⟨h1, h2⟩ := ht.holds e he
      refine ⟨h1, fun g hg => ⟨(h2 g hg).1, ?_⟩⟩
      rcases (h2 g hg).2 with h | h
      · exact (hF g h).2
      · exact .inr (Nat.le_trans hw.keeps.size h)
    · obtain ⟨h1, h2⟩ := hw.holds e (by simp [he])
      refine ⟨e.loc w w' (fun g hg => ht.keeps.block g (h2 g hg).1 (hR e he g hg)) h1, fun g hg => ⟨Nat.lt_of_lt_of_le (h2 g hg).1 ht.keeps.size, (h2 g hg).2⟩⟩
  · rw [List.pairwise_append]
    refine ⟨ht.apart, hap.2.1, fun e he f hf g hg hg' => ?_⟩
    rcases ((ht.holds e he).2 g hg).2 with h | h
    · exact hR f hf g hg' h
    · have := ((hw.holds f (by simp [hf])).2 g hg').1
      have h' : w.heap.size ≤ g := h
      omega
end
section
variable {P : Program} {C : Ctx} {Q : Exit → Act → World → Prop} {E : Slots} {S S1 S1' R : List Ent}
variable {d ty : Nat} {ps : String} {af : Array Edge} {g0 : Option (Nat × Bool)} {f : Nat}
/-- a call that turns what it is handed -/
theorem ES_callM [hf : IsFn P f] {xs : List Operand} {vs : List Value} {ats : Array TypeId} {v : Value} (R : List Ent) (hx : evs E xs = some vs) (hS : S = S1 ++ R)
    (hc : ∀ w, Mem C w (S1 ++ R) → Calls P f vs.toArray w fun e w' => e = .returned v ∧ Mem ⟨0, blks S1, w⟩ w' S1') (hd : Nat.ble (d + 1) C.n = true) :
    ES P C E S ⟨some d, .call ⟨.value (.func f), xs.toArray, ats⟩, ty, ps, af, g0⟩ (fun E' S' => E' = (d, v) :: E ∧ S' = S1' ++ R) := by
  subst hS
  exact (ES_call (fun u T => u = v ∧ T = S1' ++ R) hx (fun w hw => (hc w hw).mono fun e w' ⟨he, hb⟩ => ⟨v, _, he, hw.frame hb, rfl, rfl⟩) hd).weak (by rintro _ _ ⟨_, ⟨rfl, rfl⟩, rfl⟩; exact ⟨rfl, rfl⟩)
/-! function values -/
theorem evs_toArray {a : Act} (ha : Env C.n a E) {xs : List Operand} {vs : List Value} (h : evs E xs = some vs) : xs.toArray.map a.eval = vs.toArray := by
  have := evs_eq ha h
  simp [this]
theorem QS_makeFunc {fn : Fn} {xs ys : List Operand} {vs us : List Value} (hx : evs E xs = some vs) (hy : evs E ys = some us) : QS P C E S (.makeFunc fn xs.toArray ys.toArray) ty (.func fn vs.toArray us.toArray) :=
  QS.of (fun a w ha _ => by
    simp only [execOp, Instr.makeFunc, evs_toArray ha hx, evs_toArray ha hy]; rfl)
theorem run_callV [hf : IsFn P f] {x : Operand} {xs : List Operand} {vs us cs : List Value} {ats : Array TypeId} (hv : evo E x = some (.func (.func f) us.toArray cs.toArray)) (hx : evs E xs = some vs) {a : Act} {w : World} (ha : Env C.n a E) :
    (execOp a.eval ⟨some d, .call ⟨.value x, xs.toArray, ats⟩, ty, ps, af, g0⟩).run P w = .ok (.enter f (us ++ vs ++ cs).toArray) w := by
  have h1 := ha.evo hv
  have h2 := evs_toArray ha hx
  simp only [execOp, resolve, h1, h2, Deferred.ofValue, Sem.run_bind, Sem.run_pure, Result.andThen_ok, invoke]
  have h3 := hf.run (us.toArray ++ vs.toArray ++ cs.toArray) w
  rw [h3]
  simp
/-- a call of a function value that turns what it is handed -/
theorem ES_callFM [hf : IsFn P f] {x : Operand} {xs : List Operand} {vs us cs : List Value} {ats : Array TypeId} {v : Value} (R : List Ent) (hv : evo E x = some (.func (.func f) us.toArray cs.toArray)) (hx : evs E xs = some vs) (hS : S = S1 ++ R)
    (hc : ∀ w, Mem C w (S1 ++ R) → Calls P f (us ++ vs ++ cs).toArray w fun e w' => e = .returned v ∧ Mem ⟨0, blks S1, w⟩ w' S1') (hd : Nat.ble (d + 1) C.n = true) :
    ES P C E S ⟨some d, .call ⟨.value x, xs.toArray, ats⟩, ty, ps, af, g0⟩ (fun E' S' => E' = (d, v) :: E ∧ S' = S1' ++ R) := by
  subst hS
  refine (ES_enter (fun u T => u = v ∧ T = S1' ++ R) (fun a w ha => run_callV hv hx ha) (fun w hw => (hc w hw).mono fun e w' ⟨he, hb⟩ => ⟨v, _, he, hw.frame hb, rfl, rfl⟩) hd).weak (by rintro _ _ ⟨_, ⟨rfl, rfl⟩, rfl⟩; exact ⟨rfl, rfl⟩)
/-- a call of a function value that leaves all alone -/
theorem ES_callFV [hf : IsFn P f] {x : Operand} {xs : List Operand} {vs us cs : List Value} {ats : Array TypeId} {v : Value} (hv : evo E x = some (.func (.func f) us.toArray cs.toArray)) (hx : evs E xs = some vs)
    (hc : ∀ w, Mem C w S → Calls P f (us ++ vs ++ cs).toArray w fun e w' => e = .returned v ∧ Below w.heap.size w w') (hd : Nat.ble (d + 1) C.n = true) :
    ES P C E S ⟨some d, .call ⟨.value x, xs.toArray, ats⟩, ty, ps, af, g0⟩ (fun E' S' => E' = (d, v) :: E ∧ S' = S) := by
  refine (ES_enter (fun u T => u = v ∧ T = S) (fun a w ha => run_callV hv hx ha) (fun w hw => (hc w hw).mono fun e w' ⟨he, hb⟩ => ⟨v, _, he, hw.below hb, rfl, rfl⟩) hd).weak (by rintro _ _ ⟨_, ⟨rfl, rfl⟩, rfl⟩; exact ⟨rfl, rfl⟩)
end
/-! what is known, in another order -/
inductive Pick : List Ent → Ent → List Ent → Prop
  | here (e : Ent) (S : List Ent) : Pick (e :: S) e S
  | there {S R : List Ent} {e : Ent} (f : Ent) (h : Pick S e R) : Pick (f :: S) e (f :: R)
theorem Pick.form {S R : List Ent} {e : Ent} (h : Pick S e R) : ∃ A B, S = A ++ e :: B ∧ R = A ++ B := by
  induction h with
  | here e S => exact ⟨[], S, rfl, rfl⟩
  | there f _ ih => obtain ⟨A, B, rfl, rfl⟩ := ih; exact ⟨f :: A, B, rfl, rfl⟩
inductive Sel : List Ent → List Ent → Prop
  | nil (S : List Ent) : Sel S []
  | cons {S R T : List Ent} {e : Ent} (h : Pick S e R) (t : Sel R T) : Sel S (e :: T)
section
variable {C : Ctx} {w : World} {S R T' : List Ent} {e : Ent}
theorem Mem.pick (hw : Mem C w S) (h : Pick S e R) : Mem C w (e :: R) := by
  obtain ⟨A, B, rfl, rfl⟩ := h.form
  have hap := hw.apart
  rw [List.pairwise_append, List.pairwise_cons] at hap
  obtain ⟨hA, ⟨hB1, hB⟩, hAB⟩ := hap
  refine ⟨hw.keeps, fun f hf => hw.holds f ?_, ?_⟩
  · rcases List.mem_cons.1 hf with rfl | hf
    · simp
    · rcases List.mem_append.1 hf with h | h <;> simp [h]
  · rw [List.pairwise_cons, List.pairwise_append]
    refine ⟨fun f hf g hg hg' => ?_, hA, hB, fun f hf k hk => hAB f hf k (by simp [hk])⟩
    rcases List.mem_append.1 hf with hf | hf
    · exact hAB f hf e (by simp) g hg' hg
    · exact hB1 f hf g hg hg'
theorem Sel.mem : ∀ {S T : List Ent}, Sel S T → ∀ f ∈ T, f ∈ S
  | _, _, .nil _, f, h => by simp at h
  | _, _, .cons h t, f, hf => by
    obtain ⟨A, B, rfl, rfl⟩ := h.form
    rcases List.mem_cons.1 hf with rfl | hf
    · simp
    · rcases List.mem_append.1 (t.mem f hf) with h | h <;> simp [h]
theorem Mem.sel (hw : Mem C w S) (h : Sel S T') : Mem C w T' := by
  induction h with
  | nil S => exact hw.sub (List.nil_sublist _)
  | @cons S R T e h t ih =>
    have h1 := hw.pick h
    have hap := List.pairwise_cons.1 h1.apart
    have h2 := ih (h1.sub (List.sublist_cons_self _ _))
    refine ⟨h2.keeps, fun f hf => ?_, ?_⟩
    · rcases List.mem_cons.1 hf with rfl | hf
      · exact h1.holds f (by simp)
      · exact h2.holds f hf
    · exact List.pairwise_cons.2 ⟨fun f hf => hap.1 f (t.mem f hf), h2.apart⟩
end
/-! a cut: what is known behind a region, said once -/
def Cut {X : Type} (C : Ctx) (I : X → Slots) (J : X → List Ent) (pre : X → Prop) (a : Act) (w : World) : Prop := ∃ x, pre x ∧ Env C.n a (I x) ∧ Mem C w (J x)
section
variable {P : Program} {C : Ctx} {Q : Exit → Act → World → Prop} {E : Slots} {S : List Ent}
theorem T_cut {X : Type} {x y : Code} (I : X → Slots) (J : X → List Ent) (pre : X → Prop) (hx : T P C x (Exit.then (Cut C I J pre) Q) E S) (hy : ∀ z, pre z → T P C y Q (I z) (J z)) : T P C (.seq x y) Q E S :=
  ⟨fun a w ha hw => wp_seq (Code.wp_mono (fun e a' w' h => by
    cases e with
    | normal =>
      obtain ⟨z, hp, he, hm⟩ := h
      exact (hy z hp).run a' w' he hm
    | _ => exact h) (hx.run a w ha hw))⟩
theorem T_cutAt {X : Type} (id : Nat) {ops : Array Oper} {dr : Bool} {y : Code} (I : X → Slots) (J : X → List Ent) (pre : X → Prop) (hx : T P C (.region id ops dr) (Exit.then (Cut C I J pre) Q) E S) (hy : ∀ z, pre z → T P C y Q (I z) (J z)) : T P C (.seq (.region id ops dr) y) Q E S :=
  T_cut I J pre hx hy
theorem T_eqS {S' : List Ent} {c : Code} (h : S = S') (ht : T P C c Q E S') : T P C c Q E S := by subst h; exact ht
theorem At_cut {X : Type} {I : X → Slots} {J : X → List Ent} {pre : X → Prop} (z : X) (hp : pre z) (hE : SubE E (I z)) (hS : ∀ w, Mem C w S → Mem C w (J z)) : At C (Exit.then (Cut C I J pre) Q .normal) E S :=
  ⟨fun a w ha hw => ⟨z, hp, ha.sub hE, hS w hw⟩⟩
end
end Go.Proofs.Ytbhjljnbjomnhaa
