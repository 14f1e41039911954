/- Lemmas for the walks (Srt, SrtRvl, Ptr, P, Own2, Fct, Rw2, Ifc). No condition. -/
import Derived.Test.YtbhjljnbjomnhaaG04
import Derived.Test.YtbhjljnbjomnhaaG06
import Derived.Shelf.SlSortCmp.NoneTotal
import Derived.Laws.Pointers
import Derived.Test.YtbhjljnbjomnhaaG07
import Derived.Test.YtbhjljnbjomnhaaG09
set_option linter.unusedSimpArgs false
set_option linter.unusedVariables false
set_option linter.unusedSectionVars false
set_option linter.unnecessarySimpa false
namespace Go.Proofs.Ytbhjljnbjomnhaa
open Go.RowKit Go.Shelf Go.Lib Go.Sort

theorem flatK_list {α : Type} [Inhabited α] {enc : α → List Value} {k : Nat} (hk : ∀ x, (enc x).length = k) (d : Array α) : (flatK enc k d).toList = d.toList.flatMap enc := by
  apply List.ext_getElem?
  intro t
  by_cases ht : t < d.size * k
  · have k0 : 0 < k := by
      rcases Nat.eq_zero_or_pos k with h | h
      · subst h; simp at ht
      · exact h
    have hq : t / k < d.size := (Nat.div_lt_iff_lt_mul k0).2 ht
    have hr : t % k < k := Nat.mod_lt _ k0
    have h2 := flat_at hk d.toList (t / k) (by simpa using hq) (t % k) hr
    rw [Nat.div_add_mod'] at h2
    rw [h2]
    have h3 := get_flatK enc k d t ht
    have h4 : (flatK enc k d).toList[t]? = some ((flatK enc k d)[t]!) := by
      rw [getElem!_pos _ t (by simpa using ht), Array.getElem?_toList]
      exact Array.getElem?_eq_getElem _
    rw [h4, h3]
    have e : d[t / k]! = d.toList[t / k]'(by simpa using hq) := by rw [getElem!_pos d _ hq]; simp
    have hl : t % k < (enc (d.toList[t / k]'(by simpa using hq))).length := by rw [hk]; exact hr
    rw [e, getElem!_pos (enc (d.toList[t / k]'(by simpa using hq))) (t % k) hl]
    exact (List.getElem?_eq_getElem hl).symm
  · rw [List.getElem?_eq_none (by simp; omega), List.getElem?_eq_none (by rw [flat_len hk]; simp; omega)]
theorem putRowK_heap {α : Type} [Inhabited α] {enc : α → List Value} {k : Nat} {w : World} {g n : Nat} {d : Array α} {os : Array Obj} {cur : Array Value} {e : TypeId} {tg : Nat × Nat} (hg : w.heap[g]? = some (.cells cur e tg)) :
    (sortWorldK enc k w g 0 n d os).heap[g]? = some (.cells (putCells id 0 (flatK enc k d) cur) e tg) := by
  have hlt : g < w.heap.size := (Array.getElem?_eq_some_iff.1 hg).1
  show ((w.heap.modify g (onCells (putCells id 0 (flatK enc k d)))) ++ os)[g]? = _
  rw [Array.getElem?_append_left (by simpa using hlt), Array.getElem?_modify, if_pos rfl, hg]
  rfl
theorem putRowK_keeps {α : Type} [Inhabited α] {enc : α → List Value} {k : Nat} {w : World} {g n : Nat} {d : Array α} {os : Array Obj} : Keeps [g] w (sortWorldK enc k w g 0 n d os) := by
  refine ⟨rfl, rfl, rfl, ?_, fun j hj hn => ?_⟩
  · show w.heap.size ≤ ((w.heap.modify g _) ++ os).size
    simp
  · show ((w.heap.modify g _) ++ os)[j]? = _
    rw [Array.getElem?_append_left (by simpa using hj), Array.getElem?_modify, if_neg (fun e => hn (by simp [e]))]
theorem take_putCells {v cur : Array Value} (h : v.size ≤ cur.size) : (putCells id 0 v cur).toList.take v.size = v.toList := by
  apply List.ext_getElem?
  intro t
  rw [List.getElem?_take]
  by_cases ht : t < v.size
  · rw [if_pos ht, Array.getElem?_toList]
    unfold putCells
    rw [Array.getElem?_mapIdx, Array.getElem?_eq_getElem (by omega)]
    simp only [Option.map_some, Nat.zero_le, Nat.zero_add, true_and, Nat.sub_zero, id, ht, if_true]
    rw [getElem!_pos v t ht, Array.getElem?_toList, Array.getElem?_eq_getElem ht]
  · rw [if_neg ht, List.getElem?_eq_none (by simp; omega)]
/-- what the sort makes of a list -/
abbrev SortTo {α : Type} (cf : α → α → Int) (ls : List α) := {S : List α // S.Perm ls ∧ S.Pairwise fun a b => ¬ cf b a < 0}
section
variable {P : Program} {ρ : Ren} {α : Type} [Inhabited α] (L : SlLaysF0.n6 P ρ) {enc : α → List Value} {k et g : Nat} {cb : Array Value} (aE : ∀ w, (isAgg (ρ.t 24)).run P w = .ok true w) (zE : ∀ w, (Go.sizeOf (ρ.t 24)).run P w = .ok k w)
  (hk : ∀ x, (enc x).length = k) (h1 : ∀ x, ∀ v ∈ enc x, v.oneCell' = true) (cf : α → α → Int) (hO : SWO (ltOf cf)) (eg : ∀ args w, (callFunc g args).run P w = .ok (.enter g args) w)
  (hcmp : ∀ (x y : α) (W : World), Calls P g (#[.agg (enc x).toArray, .agg (enc y).toArray] ++ cb) W fun e w' => e = .returned (.int .i64 (cf x y)) ∧ ∃ q os', w' = grow (W.drewN q) os')
include L aE zE hk h1 hO eg hcmp
theorem sort_mem (A : Option Addr) (c : Nat) (ls : List α) (w : World) (ho : Own enc k et w 0 (.slice A ls.length c) ls) (hsz : ls.length < 4611686018427387904) :
    Calls P (ρ.f 6) #[.slice A ls.length c, .func (.func g) #[] cb] w fun e w' => ∃ x : SortTo cf ls, e = .returned (.tuple #[]) ∧ Mem ⟨0, blks [entOwn enc k et A c ls], w⟩ w' [entOwn enc k et A c x.1] := by
  have hbase : Mem ⟨0, blks [entOwn enc k et A c ls], w⟩ w [entOwn enc k et A c ls] := by
    refine ⟨Keeps.refl _ _, fun e he => ?_, by simp⟩
    rw [List.mem_singleton] at he
    subst he
    exact ⟨ho, fun g hg => ⟨(World.ownsRow.lt ho g hg).2, .inl (by simp [blks, (entOwn enc k et A c ls).hfin, hg])⟩⟩
  rcases Nat.eq_zero_or_pos ls.length with h0 | hpos
  · obtain rfl : ls = [] := List.length_eq_zero_iff.1 h0
    refine (AnyF.slices_SortFunc_none { L with } A c (.func (.func g) #[] cb) w).mono ?_
    rintro e w' ⟨rfl, rfl⟩
    exact ⟨⟨[], List.Perm.refl _, .nil⟩, rfl, hbase⟩
  rcases ho.2 with ⟨hv, h0⟩ | ⟨gg, cap, cur, hv, hbb, hg, hnc, hcm, hcs, htake⟩
  · omega
  simp only [Value.slice.injEq] at hv
  obtain ⟨rfl, -, rfl⟩ := hv
  have hlt : gg < w.heap.size := (Array.getElem?_eq_some_iff.1 hg).1
  have hfl := flat_len hk ls
  have hle : ls.length * k ≤ cur.size := by rw [hcs]; exact Nat.mul_le_mul_right k hnc
  have hH : HoldsK enc k w gg 0 ls.toArray := by
    intro j hj
    rw [size_flatK] at hj
    simp only [List.size_toArray] at hj
    have hf : (flatK enc k ls.toArray).toList = ls.flatMap enc := flatK_list hk _
    have hjt : cur[j]? = some ((flatK enc k ls.toArray)[j]!) := by
      have e1 : (ls.flatMap enc)[j]? = cur[j]? := by
        rw [← htake, List.getElem?_take, if_pos hj, Array.getElem?_toList]
      rw [← e1, ← hf, Array.getElem?_toList, getElem!_pos _ j (by simpa using hj)]
      exact Array.getElem?_eq_getElem _
    refine ⟨?_, ?_⟩
    · simp only [World.cell?, hg, Nat.zero_add, id]
      exact hjt
    · simp [World.frozen?, hg]
  have hcl : CmpLays P g cb enc k cf gg 0 ls.toArray.size w := fun m os dk _ x y => hcmp x y _
  refine (AnyQ.slices_SortFunc L k aE zE enc hk h1 cf hO g cb gg 0 c ls.toArray w eg hcl hH hlt (by simpa using hsz)).mono ?_
  rintro e w' ⟨rfl, d', n, os, hperm, hsort, rfl⟩
  obtain ⟨p1, p2, p3⟩ := hperm
  simp only [List.size_toArray] at p1 p3 hsort
  have hd : (d'.extract 0 ls.length).toList = d'.toList := by rw [← p1]; simp
  have hl : (ls.toArray.extract 0 ls.length).toList = ls := by simp
  rw [hd, hl] at p3
  have hdl : d'.toList.length = ls.length := by simpa using p1
  refine ⟨⟨d'.toList, p3, ?_⟩, rfl, ?_⟩
  · rw [List.pairwise_iff_getElem]
    intro i j hi hj hij
    have := hsort i j (by omega) hij (by omega)
    rw [getElem!_pos d' j (by simpa using hj), getElem!_pos d' i (by simpa using hi)] at this
    simpa [ltOf] using this
  · refine hbase.upd (Upd.here _ _ _) putRowK_keeps (fun q hq => ?_) (fun q hq => ?_) ?_
    · rw [List.mem_singleton] at hq
      subst hq
      simp [entOwn, Value.ownBlock]
    · have hq' : some gg = some q := hq
      cases hq'
      exact ⟨Nat.lt_of_lt_of_le hlt (putRowK_keeps (enc := enc)).size, .inl rfl⟩
    · show Own enc k et _ 0 (.slice (some ⟨gg, 0, none⟩) d'.toList.length c) d'.toList
      refine ⟨flat_len hk _, .inr ⟨gg, c, _, by rw [hdl], Nat.zero_le _, putRowK_heap hg, by rw [hdl]; exact hnc, hcm, by simp [putCells, hcs], ?_⟩⟩
      rw [← flatK_list hk, ← take_putCells (v := flatK enc k d') (cur := cur) (by rw [size_flatK, p1]; exact hle), size_flatK, p1, hdl]
end
theorem flat_map {α β : Type} (f : β → α) (enc : α → List Value) : ∀ l : List β, (l.flatMap fun x => enc (f x)) = (l.map f).flatMap enc
  | [] => rfl
  | x :: l => by rw [List.flatMap_cons, List.map_cons, List.flatMap_cons, flat_map f enc l]
theorem own_map {α β : Type} {f : β → α} {enc : α → List Value} {k et c B : Nat} {A : Option Addr} {w : World} {l : List β} {n : Nat} : Own (fun x => enc (f x)) k et w B (.slice A n c) l ↔ Own enc k et w B (.slice A n c) (l.map f) := by
  unfold Own
  rw [flat_map, List.length_map]
section
variable {P : Program} {ρ : Ren} {α : Type} (L : SlLaysF0.n6 P ρ) {enc : α → List Value} {k et g : Nat} {cb : Array Value} (aE : ∀ w, (isAgg (ρ.t 24)).run P w = .ok true w) (zE : ∀ w, (Go.sizeOf (ρ.t 24)).run P w = .ok k w)
  (hk : ∀ x, (enc x).length = k) (h1 : ∀ x, ∀ v ∈ enc x, v.oneCell' = true) (cf : α → α → Int) {p : α → Prop} [Inhabited {x // p x}] (hO : SWO (ltOf fun x y : {x // p x} => cf x.1 y.1)) (eg : ∀ args w, (callFunc g args).run P w = .ok (.enter g args) w)
  (hcmp : ∀ (x y : α) (W : World), p x → p y → Calls P g (#[.agg (enc x).toArray, .agg (enc y).toArray] ++ cb) W fun e w' => e = .returned (.int .i64 (cf x y)) ∧ ∃ q os', w' = grow (W.drewN q) os')
include L aE zE hk h1 hO eg hcmp
/-- the same, where the items are of a kind -/
theorem sort_memP (A : Option Addr) (c : Nat) (ls : List α) (w : World) (hp : ∀ x ∈ ls, p x) (ho : Own enc k et w 0 (.slice A ls.length c) ls) (hsz : ls.length < 4611686018427387904) :
    Calls P (ρ.f 6) #[.slice A ls.length c, .func (.func g) #[] cb] w fun e w' => ∃ x : SortTo cf ls, e = .returned (.tuple #[]) ∧ Mem ⟨0, blks [entOwn enc k et A c ls], w⟩ w' [entOwn enc k et A c x.1] := by
  obtain ⟨l2, hl2⟩ : ∃ l2 : List {x // p x}, l2.map Subtype.val = ls := ⟨ls.pmap Subtype.mk hp, by rw [List.map_pmap]; simp⟩
  subst hl2
  rw [List.length_map] at ho hsz ⊢
  refine (sort_mem L (enc := fun x : {x // p x} => enc x.1) (et := et) aE zE (fun x => hk x.1) (fun x => h1 x.1) (fun x y => cf x.1 y.1) hO eg (fun x y W => hcmp x.1 y.1 W x.2 y.2) A c l2 w (own_map.2 ho) hsz).mono ?_
  rintro e w' ⟨x, rfl, hm⟩
  have hfin : ∀ l : List {x // p x}, (entOwn (fun x : {x // p x} => enc x.1) k et A c l).fin = (entOwn enc k et A c (l.map Subtype.val)).fin := fun l => by
    show (Value.slice A l.length c).ownBlock.toList = (Value.slice A (l.map Subtype.val).length c).ownBlock.toList
    rw [List.length_map]
  have hhas : ∀ (l : List {x // p x}) q, (entOwn (fun x : {x // p x} => enc x.1) k et A c l).has q = (entOwn enc k et A c (l.map Subtype.val)).has q := fun l q => by
    show ((Value.slice A l.length c).ownBlock = some q) = ((Value.slice A (l.map Subtype.val).length c).ownBlock = some q)
    rw [List.length_map]
  have hF : blks [entOwn (fun x : {x // p x} => enc x.1) k et A c l2] = blks [entOwn enc k et A c (l2.map Subtype.val)] := by
    simp only [blks, hfin]
  rw [hF] at hm
  refine ⟨⟨x.1.map Subtype.val, x.2.1.map _, ?_⟩, rfl, ?_⟩
  · rw [List.pairwise_map]; exact x.2.2
  · refine ⟨hm.keeps, fun e he => ?_, by simp⟩
    rw [List.mem_singleton] at he
    subst he
    have h2 := hm.holds _ (List.mem_singleton.2 rfl)
    refine ⟨?_, fun q hq => h2.2 q (by rw [hhas]; exact hq)⟩
    show Own enc k et w' 0 (.slice A (x.1.map Subtype.val).length c) (x.1.map Subtype.val)
    rw [List.length_map]
    exact own_map.1 h2.1
end
end Go.Proofs.Ytbhjljnbjomnhaa

namespace Go.Proofs.Ytbhjljnbjomnhaa
open Go.RowKit Go.Shelf Go.Lib

def rhoRvl : Ren := ⟨fun n => if n = 6 then 116 else if n = 14 then 165 else if n = 15 then 114 else if n = 20 then 192 else if n = 21 then 193 else if n = 22 then 194 else if n = 23 then 195 else if n = 24 then 196 else if n = 25 then 197 else if n = 26 then 198 else if n = 27 then 199 else if n = 28 then 161 else if n = 29 then 162 else if n = 46 then 223 else if n = 47 then 188 else if n = 48 then 189 else if n = 49 then 224 else if n = 50 then 225 else if n = 57 then 232 else n, fun n => if n = 0 then 0 else if n = 3 then 3 else if n = 4 then 4 else if n = 5 then 5 else if n = 9 then 9 else if n = 22 then 218 else if n = 24 then 224 else if n = 25 then 226 else if n = 39 then 117 else if n = 45 then 273 else if n = 46 then 274 else if n = 50 then 40 else if n = 53 then 280 else if n = 55 then 282 else if n = 66 then 314 else if n = 70 then 318 else if n = 76 then 337 else if n = 77 then 338 else n, fun n => n⟩
set_option maxRecDepth 100000 in
theorem srtRvl : SlLaysF0.n6 Try.prog rhoRvl where
  mixed := by kernel_rfl
  f6 := ⟨ "slices.SortFunc[[]alibi/rows.value,alibi/rows.value]", rfl, by kernel_rfl⟩
  f14 := ⟨ "slices.pdqsortCmpFunc[alibi/rows.value]", rfl, by kernel_rfl⟩
  f15 := by kernel_rfl
  f20 := ⟨ "slices.insertionSortCmpFunc[alibi/rows.value]", rfl, by kernel_rfl⟩
  f21 := ⟨ "slices.heapSortCmpFunc[alibi/rows.value]", rfl, by kernel_rfl⟩
  f22 := ⟨ "slices.breakPatternsCmpFunc[alibi/rows.value]", rfl, by kernel_rfl⟩
  f23 := ⟨ "slices.choosePivotCmpFunc[alibi/rows.value]", rfl, by kernel_rfl⟩
  f24 := ⟨ "slices.reverseRangeCmpFunc[alibi/rows.value]", rfl, by kernel_rfl⟩
  f25 := ⟨ "slices.partialInsertionSortCmpFunc[alibi/rows.value]", rfl, by kernel_rfl⟩
  f26 := ⟨ "slices.partitionEqualCmpFunc[alibi/rows.value]", rfl, by kernel_rfl⟩
  f27 := ⟨ "slices.partitionCmpFunc[alibi/rows.value]", rfl, by kernel_rfl⟩
  f28 := by kernel_rfl
  f29 := by kernel_rfl
  f46 := ⟨ "slices.siftDownCmpFunc[alibi/rows.value]", rfl, by kernel_rfl⟩
  f47 := by kernel_rfl
  f48 := by kernel_rfl
  f49 := ⟨ "slices.medianAdjacentCmpFunc[alibi/rows.value]", rfl, by kernel_rfl⟩
  f50 := ⟨ "slices.medianCmpFunc[alibi/rows.value]", rfl, by kernel_rfl⟩
  f57 := ⟨ "slices.order2CmpFunc[alibi/rows.value]", rfl, by kernel_rfl⟩
  t0 := Try.underlying0
  a0 := Try.isAgg0
  z0 := Try.sizeOf0
  v0 := Try.zeroValue0
  t3 := Try.underlying3
  a3 := Try.isAgg3
  z3 := Try.sizeOf3
  v3 := Try.zeroValue3
  t4 := Try.underlying4
  a4 := Try.isAgg4
  z4 := Try.sizeOf4
  v4 := Try.zeroValue4
  t5 := Try.underlying5
  a5 := Try.isAgg5
  z5 := Try.sizeOf5
  v5 := Try.zeroValue5
  t9 := Try.underlying9
  a9 := Try.isAgg9
  z9 := Try.sizeOf9
  v9 := Try.zeroValue9
  t22 := Try.underlying218
  a22 := Try.isAgg218
  z22 := Try.sizeOf218
  v22 := Try.zeroValue218
  t25 := Try.underlying226
  a25 := Try.isAgg226
  z25 := Try.sizeOf226
  v25 := Try.zeroValue226
  t39 := Try.underlying117
  a39 := Try.isAgg117
  z39 := Try.sizeOf117
  v39 := Try.zeroValue117
  t45 := Try.underlying273
  a45 := Try.isAgg273
  z45 := Try.sizeOf273
  v45 := Try.zeroValue273
  t46 := Try.underlying274
  a46 := Try.isAgg274
  z46 := Try.sizeOf274
  v46 := Try.zeroValue274
  t50 := Try.underlying40
  a50 := Try.isAgg40
  z50 := Try.sizeOf40
  v50 := Try.zeroValue40
  t53 := Try.underlying280
  a53 := Try.isAgg280
  z53 := Try.sizeOf280
  v53 := Try.zeroValue280
  t55 := Try.underlying282
  a55 := Try.isAgg282
  z55 := Try.sizeOf282
  v55 := Try.zeroValue282
  t66 := Try.underlying314
  a66 := Try.isAgg314
  z66 := Try.sizeOf314
  v66 := Try.zeroValue314
  t70 := Try.underlying318
  a70 := Try.isAgg318
  z70 := Try.sizeOf318
  v70 := Try.zeroValue318
  t76 := Try.underlying337
  a76 := Try.isAgg337
  z76 := Try.sizeOf337
  v76 := Try.zeroValue337
  t77 := Try.underlying338
  a77 := Try.isAgg338
  z77 := Try.sizeOf338
  v77 := Try.zeroValue338
end Go.Proofs.Ytbhjljnbjomnhaa

namespace Go.Proofs.Ytbhjljnbjomnhaa
open Go.RowKit

class PtrT (P : Program) (t : Nat) : Prop where
  und : P.underlying t = some (.pointer (P.pointee t))
section
variable {P : Program} {C : Ctx} {E : Slots} {S : List Ent} {ty ty3 t : Nat} {x y : Operand} {p : Option Addr} [hs : PtrT P t]
theorem QS_eqlPN (hx : evo E x = some (.pointer p)) (hy : evo E y = some (.pointer none)) : QS P C E S (.binOp .eql t x y ty3) ty (.bool p.isNone) :=
  QS.of (fun a w ha _ => by
    have h2 := run_eql_pointer_nil (P := P) w t p hs.und
    have hg : (eqGuard .eql t x y (.pointer p) (.pointer none)).run P w = .ok () w := by
      unfold eqGuard
      simp [run_underlying hs.und]
    simp only [execOp, ha.evo hx, ha.evo hy, Sem.run_bind, hg, Result.andThen_ok, h2]; rfl)
theorem QS_neqPN (hx : evo E x = some (.pointer p)) (hy : evo E y = some (.pointer none)) : QS P C E S (.binOp .neq t x y ty3) ty (.bool (!p.isNone)) :=
  QS.of (fun a w ha _ => by
    have h2 := run_neq_pointer_nil (P := P) w t p hs.und
    have hg : (eqGuard .neq t x y (.pointer p) (.pointer none)).run P w = .ok () w := by
      unfold eqGuard
      simp [run_underlying hs.und]
    simp only [execOp, ha.evo hx, ha.evo hy, Sem.run_bind, hg, Result.andThen_ok, h2]; rfl)
theorem QS_eqlPS {ad : Addr} (hx : evo E x = some (.pointer (some ad))) (hy : evo E y = some (.pointer none)) : QS P C E S (.binOp .eql t x y ty3) ty (.bool false) := QS_eqlPN hx hy
theorem QS_neqPS {ad : Addr} (hx : evo E x = some (.pointer (some ad))) (hy : evo E y = some (.pointer none)) : QS P C E S (.binOp .neq t x y ty3) ty (.bool true) := QS_neqPN hx hy
theorem QS_eqlPZ (hx : evo E x = some (.pointer none)) (hy : evo E y = some (.pointer none)) : QS P C E S (.binOp .eql t x y ty3) ty (.bool true) := QS_eqlPN hx hy
theorem QS_neqPZ (hx : evo E x = some (.pointer none)) (hy : evo E y = some (.pointer none)) : QS P C E S (.binOp .neq t x y ty3) ty (.bool false) := QS_neqPN hx hy
end
end Go.Proofs.Ytbhjljnbjomnhaa

namespace Go.Proofs.Ytbhjljnbjomnhaa
open Go.RowKit

/-- S holds what S1 says, in any order; R is left -/
inductive Pull : List Ent → List Ent → List Ent → Prop
  | nil (S : List Ent) : Pull S [] S
  | cons {S R T R' : List Ent} {e : Ent} (h : Pick S e R) (t : Pull R T R') : Pull S (e :: T) R'
theorem Pull.mem : ∀ {S T R : List Ent}, Pull S T R → ∀ f, f ∈ T ++ R ↔ f ∈ S
  | _, _, _, .nil _, f => by simp
  | _, _, _, .cons h t, f => by
    obtain ⟨A, B, rfl, rfl⟩ := h.form
    have := t.mem f
    rw [List.cons_append, List.mem_cons, this]
    simp only [List.mem_append, List.mem_cons]
    constructor
    · rintro (h | h | h)
      · exact .inr (.inl h)
      · exact .inl h
      · exact .inr (.inr h)
    · rintro (h | h | h)
      · exact .inr (.inl h)
      · exact .inl h
      · exact .inr (.inr h)
section
variable {C : Ctx} {w : World} {S T R : List Ent}
theorem Mem.pull (hw : Mem C w S) (h : Pull S T R) : Mem C w (T ++ R) := by
  induction h with
  | nil S => exact hw
  | @cons S R T R' e h t ih =>
    have h1 := hw.pick h
    have hap := List.pairwise_cons.1 h1.apart
    have h2 := ih (h1.sub (List.sublist_cons_self _ _))
    refine ⟨h2.keeps, fun f hf => ?_, ?_⟩
    · rcases List.mem_cons.1 hf with rfl | hf
      · exact h1.holds f (by simp)
      · exact h2.holds f hf
    · exact List.pairwise_cons.2 ⟨fun f hf => hap.1 f ((t.mem f).1 hf), h2.apart⟩
end
/-- one list behind the other, laid flat -/
inductive AppL : List Ent → List Ent → List Ent → Prop
  | nil (R : List Ent) : AppL [] R R
  | cons {T R S2 : List Ent} (e : Ent) (h : AppL T R S2) : AppL (e :: T) R (e :: S2)
theorem AppL.eq {T R S2 : List Ent} (h : AppL T R S2) : T ++ R = S2 := by
  induction h with
  | nil R => rfl
  | cons e _ ih => rw [List.cons_append, ih]
section
variable {P : Program} {C : Ctx} {Q : Exit → Act → World → Prop} {E : Slots} {S S1 S1' R S2 : List Ent}
variable {d ty : Nat} {ps : String} {af : Array Edge} {g0 : Option (Nat × Bool)} {f : Nat}
/-- a call that turns what it is handed -/
theorem ES_callMp [hf : IsFn P f] {xs : List Operand} {vs : List Value} {ats : Array TypeId} {v : Value} (hx : evs E xs = some vs) (hS : Pull S S1 R) (hA : AppL S1' R S2)
    (hc : ∀ w, Mem C w (S1 ++ R) → Calls P f vs.toArray w fun e w' => e = .returned v ∧ Mem ⟨0, blks S1, w⟩ w' S1') (hd : Nat.ble (d + 1) C.n = true) :
    ES P C E S ⟨some d, .call ⟨.value (.func f), xs.toArray, ats⟩, ty, ps, af, g0⟩ (fun E' S' => E' = (d, v) :: E ∧ S' = S2) :=
  (ES_call (fun u T => u = v ∧ T = S1' ++ R) hx (fun w hw => (hc w (hw.pull hS)).mono fun e w' ⟨he, hb⟩ => ⟨v, _, he, (hw.pull hS).frame hb, rfl, rfl⟩) hd).weak (by rintro _ _ ⟨_, ⟨rfl, rfl⟩, rfl⟩; exact ⟨rfl, hA.eq⟩)
/-- a call of a function value that turns what it is handed -/
theorem ES_callFMp [hf : IsFn P f] {x : Operand} {xs : List Operand} {vs us cs : List Value} {ats : Array TypeId} {v : Value} (hv : evo E x = some (.func (.func f) us.toArray cs.toArray)) (hx : evs E xs = some vs) (hS : Pull S S1 R) (hA : AppL S1' R S2)
    (hc : ∀ w, Mem C w (S1 ++ R) → Calls P f (us ++ vs ++ cs).toArray w fun e w' => e = .returned v ∧ Mem ⟨0, blks S1, w⟩ w' S1') (hd : Nat.ble (d + 1) C.n = true) :
    ES P C E S ⟨some d, .call ⟨.value x, xs.toArray, ats⟩, ty, ps, af, g0⟩ (fun E' S' => E' = (d, v) :: E ∧ S' = S2) :=
  (ES_enter (fun u T => u = v ∧ T = S1' ++ R) (fun a w ha => run_callV hv hx ha) (fun w hw => (hc w (hw.pull hS)).mono fun e w' ⟨he, hb⟩ => ⟨v, _, he, (hw.pull hS).frame hb, rfl, rfl⟩) hd).weak (by rintro _ _ ⟨_, ⟨rfl, rfl⟩, rfl⟩; exact ⟨rfl, hA.eq⟩)
theorem Mem.blkAt {w : World} {g t : Nat} {cs : Array Value} (hw : Mem C w S) (hm : entBlk g t cs ∈ S) : g < w.heap.size ∧ ∀ o, w.cell? ⟨g, o, Option.none⟩ = cs[o]? :=
  ⟨((hw.holds _ hm).1 : Blk w g t cs).lt, fun o => ((hw.holds _ hm).1 : Blk w g t cs).cell o⟩
/-- a call that hands back what it made -/
theorem ES_callNew [hf : IsFn P f] {X : Type} {xs : List Operand} {vs : List Value} {ats : Array TypeId} (v : X → Value) (S1 : X → List Ent) {S2 : X → List Ent} (hx : evs E xs = some vs) (hA : ∀ x, AppL (S1 x) S (S2 x))
    (hc : ∀ w, Mem C w S → Calls P f vs.toArray w fun e w' => ∃ x, e = .returned (v x) ∧ Mem ⟨0, [], w⟩ w' (S1 x)) (hd : Nat.ble (d + 1) C.n = true) :
    ES P C E S ⟨some d, .call ⟨.value (.func f), xs.toArray, ats⟩, ty, ps, af, g0⟩ (fun E' S' => ∃ x, E' = (d, v x) :: E ∧ S' = S2 x) :=
  (ES_call (fun u T => ∃ x, u = v x ∧ T = S2 x) hx (fun w hw => (hc w hw).mono fun e w' ⟨x, he, hb⟩ => ⟨v x, _, he, (show Mem C w ([] ++ S) from hw).frame (S1 := []) (n := 0) hb, x, rfl, (hA x).eq⟩) hd).weak
    (by rintro _ _ ⟨_, ⟨x, rfl, rfl⟩, rfl⟩; exact ⟨x, rfl, rfl⟩)
/-- a cut behind an 'if', named by its first region -/
theorem T_cutIf {X : Type} (id : Nat) {ops : Array Oper} {dr : Bool} {x y : Code} (I : X → Slots) (J : X → List Ent) (pre : X → Prop) (hx : T P C (.seq (.region id ops dr) x) (Exit.then (Cut C I J pre) Q) E S) (hy : ∀ z, pre z → T P C y Q (I z) (J z)) : T P C (.seq (.seq (.region id ops dr) x) y) Q E S :=
  T_cut I J pre hx hy
end
end Go.Proofs.Ytbhjljnbjomnhaa

namespace Go.Proofs.Ytbhjljnbjomnhaa
open Go.RowKit

theorem flat_div {α : Type} {enc : α → List Value} {M : Nat} (hM : ∀ x, (enc x).length = M) (h0 : 0 < M) : ∀ (l : List α) (j : Nat), (l.flatMap enc)[j]? = (l[j / M]?).bind fun x => (enc x)[j % M]?
  | [], j => by simp
  | x :: l, j => by
    rw [List.flatMap_cons]
    rcases Nat.lt_or_ge j M with h | h
    · rw [List.getElem?_append_left (by rw [hM]; exact h), Nat.div_eq_of_lt h, Nat.mod_eq_of_lt h]
      simp
    · rw [List.getElem?_append_right (by rw [hM]; exact h), hM, flat_div hM h0 l (j - M), Nat.div_eq_sub_div h0 h, ← Nat.mod_eq_sub_mod h]
      simp
theorem Lies.rd {C : Ctx} {S : List Ent} {α : Type} {enc : α → List Value} {M : Nat} {l : List α} {A : Option Addr} {c : Nat} (hR : RdE enc M C.w0 A l) (hF : C.F = []) (hM : ∀ x, (enc x).length = M) (h0 : 0 < M) (hA : A = none → c = 0) : Lies C S (.slice A l.length c) l.length (l.flatMap enc) := by
  cases A with
  | none =>
    have hl : l = [] := by
      cases l with
      | nil => rfl
      | cons x l => obtain ⟨b, o, h, _⟩ := hR.open (by simp); cases h
    subst hl
    exact .inl ⟨rfl, rfl, by rw [hA rfl]; rfl⟩
  | some ad =>
    refine .inr ⟨ad, c, rfl, fun w hw j u hu => ?_⟩
    rw [flat_div hM h0, Option.bind_eq_some_iff] at hu
    obtain ⟨x, hx, hu⟩ := hu
    obtain ⟨b, o, he, hb, hc⟩ := hR (j / M) x hx
    cases he
    have := hc (j % M) u hu
    rw [add_mk]
    refine hw.old hb (by simp [hF]) ?_
    rw [← this]
    congr 2
    have := Nat.div_add_mod j M
    rw [Nat.mul_comm] at this
    omega
theorem any_take_succ {p : Nat → Bool} {l : List Nat} {k : Nat} (hk : k < l.length) : (l.take (k + 1)).any p = ((l.take k).any p || p l[k]) := by
  rw [List.take_succ_eq_append_getElem hk, List.any_append]; simp
theorem contains_take_succ {l : List Nat} {k : Nat} (hk : k < l.length) (i : Nat) : (l.take (k + 1)).contains i = ((l.take k).contains i || decide (l[k] = i)) := by
  rw [List.take_succ_eq_append_getElem hk, List.contains_eq_mem, List.contains_eq_mem, ← Bool.decide_or]
  exact decide_eq_decide.2 (by rw [List.mem_append, List.mem_singleton]; exact ⟨fun h => h.imp id Eq.symm, fun h => h.imp id Eq.symm⟩)
theorem Mem.ownSome {C : Ctx} {S : List Ent} {α : Type} {enc : α → List Value} {M e c : Nat} {A : Option Addr} {ls : List α} {w : World} (hw : Mem C w S) (hm : entOwn enc M e A c ls ∈ S) (hl : 0 < ls.length) : A ≠ Option.none := by
  have ho : Own enc M e w 0 (.slice A ls.length c) ls := (hw.holds _ hm).1
  rcases ho.2 with ⟨_, h0⟩ | ⟨g, cap, cur, hv, _⟩
  · omega
  · simp only [Value.slice.injEq] at hv
    rw [hv.1]; simp
/-- a cell that was there -/
theorem Lds.old {P : Program} {C : Ctx} {S : List Ent} {s b k : Nat} {v : Value} [OneCell P s] (hb : b < C.w0.heap.size) (hF : b ∉ C.F) (hc : C.w0.cell? ⟨b, k, none⟩ = some v) : Lds P C S s ⟨b, k, none⟩ v :=
  Lds.one fun w hw => hw.old hb hF hc
end Go.Proofs.Ytbhjljnbjomnhaa

namespace Go.Proofs.Ytbhjljnbjomnhaa
open Go.RowKit

theorem Own.facts {α : Type} {enc : α → List Value} {M e : Nat} {w : World} {B n c : Nat} {A : Option Addr} {ls : List α} (h : Own enc M e w B (.slice A n c) ls) : ls.length ≤ c ∧ (A = none → c = 0) := by
  rcases h.2 with ⟨hv, h0⟩ | ⟨g, cap, cur, hv, _, _, hn, _⟩
  · simp only [Value.slice.injEq] at hv
    obtain ⟨rfl, -, rfl⟩ := hv
    exact ⟨by omega, fun _ => rfl⟩
  · simp only [Value.slice.injEq] at hv
    obtain ⟨rfl, -, rfl⟩ := hv
    exact ⟨hn, fun h => by cases h⟩
theorem T_fact {P : Program} {C : Ctx} {Q : Exit → Act → World → Prop} {E : Slots} {S : List Ent} {code : Code} {p : Prop} (hS : ∀ w, Mem C w S → p) (h : p → T P C code Q E S) : T P C code Q E S :=
  ⟨fun a w ha hw => (h (hS w hw)).run a w ha hw⟩
theorem Mem.ownFacts {α : Type} {enc : α → List Value} {M et c : Nat} {A : Option Addr} {ls : List α} {C : Ctx} {S : List Ent} {w : World} (hw : Mem C w S) (hm : entOwn enc M et A c ls ∈ S) : ls.length ≤ c ∧ (A = Option.none → c = 0) :=
  Own.facts (show Own enc M et w 0 (.slice A ls.length c) ls from (hw.holds _ hm).1)
theorem Mem.widen {n : Nat} {F F' : List Nat} {w w' : World} {S : List Ent} (h : Mem ⟨n, F, w⟩ w' S) (hF : ∀ g ∈ F, g ∈ F') : Mem ⟨n, F', w⟩ w' S :=
  ⟨⟨h.keeps.os, h.keeps.tape, h.keeps.output, h.keeps.size, fun k hk hn => h.keeps.block k hk fun hm => hn (hF k hm)⟩, fun e he => ⟨(h.holds e he).1, fun g hg => ⟨((h.holds e he).2 g hg).1, ((h.holds e he).2 g hg).2.imp (hF g) id⟩⟩, h.apart⟩
theorem Mem.ofOwn {α : Type} {enc : α → List Value} {M et : Nat} {ls : List α} {A : Option Addr} {c : Nat} {w w' : World} (hb : Below w.heap.size w w') (ho : Own enc M et w' w.heap.size (.slice A ls.length c) ls) : Mem ⟨0, [], w⟩ w' [entOwn enc M et A c ls] :=
  (Mem.nil ⟨0, [], w⟩).fresh (e := entOwn enc M et A c ls) hb (fun g hg => World.ownsRow.lt ho g hg) ho.base
theorem Mem.theBlk {C : Ctx} {S : List Ent} {w : World} {g t : Nat} {cs : Array Value} (hw : Mem C w S) (hm : entBlk g t cs ∈ S) : Blk w g t cs := (hw.holds _ hm).1
theorem Mem.theOwn {α : Type} {enc : α → List Value} {M et c : Nat} {A : Option Addr} {ls : List α} {C : Ctx} {S : List Ent} {w : World} (hw : Mem C w S) (hm : entOwn enc M et A c ls ∈ S) : Own enc M et w 0 (.slice A ls.length c) ls := (hw.holds _ hm).1
end Go.Proofs.Ytbhjljnbjomnhaa

namespace Go.Proofs.Ytbhjljnbjomnhaa
open Go.RowKit Go.Shelf Go.Lib Go.Sort

instance : PtrT Try.prog 221 := ⟨by kernel_rfl⟩
set_option maxRecDepth 100000 in
theorem find1_any (r : Rvl) (n : Int) (b1 : Nat) (w : World) (h1 : b1 < w.heap.size) (hc1 : w.cell? ⟨b1, 0, none⟩ = some (.int .i64 n)) :
    Calls Try.prog 164 #[.agg (Rvl.enc r).toArray, .pointer (some ⟨b1, 0, none⟩)] w fun e w' => e = .returned (.bool (decide (r.n = n))) ∧ Below w.heap.size w w' := by
  refine calls_T (S := []) [] Try.func164 rfl Try.ntmps164 (by simp) (Mem.nil _) ?_
  repeat' (first | ((first | with_reducible (first | apply TL_q | apply TD_q0 | apply TD_q1 | apply TD_q2 | apply TD_q3) | ((with_reducible (first | apply TD_q0y | apply TD_q1y)); exact rfl; exact rfl; (with_reducible exact rfl))); (first | ((with_reducible apply QS_load); exact rfl; (apply Lds.old; assumption; simp; assumption)) | ((with_reducible apply QS_neqPS); exact rfl; exact rfl) | ((with_reducible apply QS_neqPZ); exact rfl; exact rfl) | ((with_reducible apply QS_eqlPS); exact rfl; exact rfl) | ((with_reducible apply QS_eqlPZ); exact rfl; exact rfl) | exact QS.auto); exact rfl) | (refine GO ?_) | (refine GOE ?_; (first | (rintro _ _ ⟨rfl, rfl⟩) | (rintro _ _ ⟨g, rfl, rfl⟩) | (rintro _ _ ⟨A', c', rfl, rfl⟩))) | ((refine GO2 ?_ ?_) <;> intro h <;> (try (repeat (first | with_reducible (replace h := of_decide_eq_true h) | with_reducible (replace h := of_decide_eq_false h) | with_reducible (replace h := bnt h) | with_reducible (replace h := bnf h) | with_reducible (replace h := Int.not_lt.mp h) | with_reducible (replace h := Int.not_le.mp h) | with_reducible (replace h := band_dec h) | with_reducible (replace h := band_decF h) | with_reducible (replace h := bor_dec h) | with_reducible (replace h := bor_decF h)))) <;> (try (exfalso; first | contradiction | omega))) | fail)
  refine At_ret Try.results164 rfl (fun w' hw => ?_)
  exact ⟨rfl, hw.below0 rfl⟩
section
variable (gl : Nat) (A V : Option Addr) (n0 ca cv : Nat) (vs : List Rvl) (n : Int) (w : World) (hL : Blk w gl 220 #[.slice A n0 ca, .slice V vs.length cv]) (hV : RdE Rvl.enc 3 w V vs) (hl : vs.length ≤ 2000)
include hL hV hl
theorem findIdx_any (g3 : Nat) (S : List Ent) (w1 : World) (hw : Mem ⟨20, [], w⟩ w1 S) (m3 : entBlk g3 3 #[.int .i64 n] ∈ S) :
    Calls Try.prog 163 #[.slice V vs.length cv, .func (.func 164) #[] [.pointer (some ⟨g3, 0, none⟩)].toArray] w1 fun e w' => e = .returned (.int .i64 (idxF (fun r : Rvl => decide (r.n = n)) vs)) ∧ Below w1.heap.size w1 w' := by
  have b3 : Blk w1 g3 3 #[.int .i64 n] := (hw.holds _ m3).1
  exact indexRvl_any 164 (fun r => decide (r.n = n)) [.pointer (some ⟨g3, 0, none⟩)] V cv vs w1 (hw.rd rfl hV) (by omega) (fun s _ w2 h2 => find1_any s n g3 w2 (b3.carry h2).lt ((b3.carry h2).cell 0))
set_option maxRecDepth 100000 in
theorem find_no (hno : ∀ r ∈ vs, r.n ≠ n) : Calls Try.prog 115 #[.pointer (some ⟨gl, 0, none⟩), .int .i64 n] w fun e w' => e = .returned (.pointer none) ∧ Below w.heap.size w w' := by
  have hlt := hL.lt
  have hl1 : w.cell? ⟨gl, 1, none⟩ = some (.slice V vs.length cv) := hL.cell 1
  have hfi := findIdx_any gl A V n0 ca cv vs n w hL hV hl
  have hix : idxF (fun r : Rvl => decide (r.n = n)) vs = -1 := idxF_no (by
    rw [List.any_eq_false]
    intro r hr
    simp [hno r hr])
  rw [hix] at hfi
  refine calls_T (S := []) [] Try.func115 rfl Try.ntmps115 (by simp) (Mem.nil _) ?_
  repeat' (first | ((first | with_reducible (first | apply TL_q | apply TD_q0 | apply TD_q1 | apply TD_q2 | apply TD_q3) | ((with_reducible (first | apply TD_q0y | apply TD_q1y)); exact rfl; exact rfl; (with_reducible exact rfl))); (first | ((with_reducible apply QS_load); exact rfl; (apply Lds.old; assumption; simp; assumption)) | ((with_reducible apply QS_neqPS); exact rfl; exact rfl) | ((with_reducible apply QS_neqPZ); exact rfl; exact rfl) | ((with_reducible apply QS_eqlPS); exact rfl; exact rfl) | ((with_reducible apply QS_eqlPZ); exact rfl; exact rfl) | exact QS.auto); exact rfl) | (refine GO ?_) | (refine GOE ?_; (first | (rintro _ _ ⟨rfl, rfl⟩) | (rintro _ _ ⟨g, rfl, rfl⟩) | (rintro _ _ ⟨A', c', rfl, rfl⟩))) | ((refine GO2 ?_ ?_) <;> intro h <;> (try (repeat (first | with_reducible (replace h := of_decide_eq_true h) | with_reducible (replace h := of_decide_eq_false h) | with_reducible (replace h := bnt h) | with_reducible (replace h := bnf h) | with_reducible (replace h := Int.not_lt.mp h) | with_reducible (replace h := Int.not_le.mp h) | with_reducible (replace h := band_dec h) | with_reducible (replace h := band_decF h) | with_reducible (replace h := bor_dec h) | with_reducible (replace h := bor_decF h)))) <;> (try (exfalso; first | contradiction | omega))) | ((with_reducible (first | apply TD_e2z | apply TD_e3z | apply TL_e | apply TD_e2 | apply TD_e3)); ((with_reducible apply ES_callV (f := 163) (v := .int .i64 (-1))); exact rfl; (intro w1 hw; exact hfi _ _ w1 hw (by first | ((repeat (first | with_reducible exact List.mem_cons_self | with_reducible apply List.mem_cons_of_mem)); done) | (repeat (first | exact List.Mem.head _ | apply List.Mem.tail)))); exact rfl); (first | exact rfl | exact ⟨rfl, rfl, rfl⟩); (rintro _ _ ⟨rfl, rfl⟩); (try refine ⟨SUB, ?_⟩)) | fail)
  (refine At_ret Try.results115 rfl (fun w' hw => ?_))
  exact ⟨rfl, hw.below0 rfl⟩
set_option maxRecDepth 100000 in
theorem find_yes (q : Nat) (hq : q < vs.length) (hnD : (vs.getD q default).n = n) (hminD : ∀ j, j < q → (vs.getD j default).n ≠ n) (b o : Nat) (hVb : V = some ⟨b, o, none⟩) : Calls Try.prog 115 #[.pointer (some ⟨gl, 0, none⟩), .int .i64 n] w fun e w' => e = .returned (.pointer (some ⟨b, o + q * 3, none⟩)) ∧ Below w.heap.size w w' := by
  subst hVb
  have hn : vs[q].n = n := by have e : vs.getD q default = vs[q] := (by simp [hq]); rw [← e]; exact hnD
  have hmin : ∀ j (hj : j < q), (vs[j]'(by omega)).n ≠ n := fun j hj => by
    have h2 := hminD j hj
    rwa [show vs.getD j default = vs[j]'(by omega) by simp [show j < vs.length by omega]] at h2
  have hlt := hL.lt
  have hl1 : w.cell? ⟨gl, 1, none⟩ = some (.slice (some ⟨b, o, none⟩) vs.length cv) := hL.cell 1
  have hfi := findIdx_any gl A (some ⟨b, o, none⟩) n0 ca cv vs n w hL hV hl
  have hix : idxF (fun r : Rvl => decide (r.n = n)) vs = (q : Int) := idxF_at hq (by
    rw [List.any_eq_false]
    intro r hr
    rw [List.mem_take_iff_getElem] at hr
    obtain ⟨j, hj, rfl⟩ := hr
    simp [hmin j (by omega)]) (by simp [hn])
  rw [hix] at hfi
  refine calls_T (S := []) [] Try.func115 rfl Try.ntmps115 (by simp) (Mem.nil _) ?_
  repeat' (first | ((first | with_reducible (first | apply TL_q | apply TD_q0 | apply TD_q1 | apply TD_q2 | apply TD_q3) | ((with_reducible (first | apply TD_q0y | apply TD_q1y)); exact rfl; exact rfl; (with_reducible exact rfl))); (first | ((with_reducible apply QS_load); exact rfl; (apply Lds.old; assumption; simp; assumption)) | ((with_reducible apply QS_neqPS); exact rfl; exact rfl) | ((with_reducible apply QS_neqPZ); exact rfl; exact rfl) | ((with_reducible apply QS_eqlPS); exact rfl; exact rfl) | ((with_reducible apply QS_eqlPZ); exact rfl; exact rfl) | exact QS.auto); exact rfl) | (refine GO ?_) | (refine GOE ?_; (first | (rintro _ _ ⟨rfl, rfl⟩) | (rintro _ _ ⟨g, rfl, rfl⟩) | (rintro _ _ ⟨A', c', rfl, rfl⟩))) | ((refine GO2 ?_ ?_) <;> intro h <;> (try (repeat (first | with_reducible (replace h := of_decide_eq_true h) | with_reducible (replace h := of_decide_eq_false h) | with_reducible (replace h := bnt h) | with_reducible (replace h := bnf h) | with_reducible (replace h := Int.not_lt.mp h) | with_reducible (replace h := Int.not_le.mp h) | with_reducible (replace h := band_dec h) | with_reducible (replace h := band_decF h) | with_reducible (replace h := bor_dec h) | with_reducible (replace h := bor_decF h)))) <;> (try (exfalso; first | contradiction | omega))) | ((with_reducible (first | apply TD_e2z | apply TD_e3z | apply TL_e | apply TD_e2 | apply TD_e3)); ((with_reducible apply ES_callV (f := 163) (v := .int .i64 (q : Int))); exact rfl; (intro w1 hw; exact hfi _ _ w1 hw (by first | ((repeat (first | with_reducible exact List.mem_cons_self | with_reducible apply List.mem_cons_of_mem)); done) | (repeat (first | exact List.Mem.head _ | apply List.Mem.tail)))); exact rfl); (first | exact rfl | exact ⟨rfl, rfl, rfl⟩); (rintro _ _ ⟨rfl, rfl⟩); (try refine ⟨SUB, ?_⟩)) | fail)
  (refine At_ret Try.results115 rfl (fun w' hw => ?_))
  exact ⟨rfl, hw.below0 rfl⟩
theorem find_yes0 (q : Nat) (hq : q < vs.length) (hnD : (vs.getD q default).n = n) (hminD : ∀ j, j < q → (vs.getD j default).n ≠ n) (b : Nat) (hVb : V = some ⟨b, 0, none⟩) : Calls Try.prog 115 #[.pointer (some ⟨gl, 0, none⟩), .int .i64 n] w fun e w' => e = .returned (.pointer (some ⟨b, q * 3, none⟩)) ∧ Below w.heap.size w w' := by
  have h := find_yes gl A V n0 ca cv vs n w hL hV hl q hq hnD hminD b 0 hVb
  rwa [Nat.zero_add] at h
end
set_option maxHeartbeats 1000000 in
theorem rvlCmp_any (x y : Rvl) (W : World) (hx : 0 ≤ x.n ∧ x.n ≤ 1000) (hy : 0 ≤ y.n ∧ y.n ≤ 1000) : Calls Try.prog 117 #[.agg (Rvl.enc x).toArray, .agg (Rvl.enc y).toArray] W fun e w' => e = .returned (.int .i64 (x.n - y.n)) ∧ ∃ q os', w' = grow (W.drewN q) os' := by
  obtain ⟨xc, xr, xd⟩ := x
  obtain ⟨yc, yr, yd⟩ := y
  dsimp only at hx hy ⊢
  have hw : IntKind.i64.wrap (xc - yc) = xc - yc := IntWalk.i64_in _ ⟨by omega, by omega⟩
  rw [show (Rvl.enc ⟨xc, xr, xd⟩).toArray = #[.int .i64 xc, .int .i64 xr, .int .i64 xd] from rfl, show (Rvl.enc ⟨yc, yr, yd⟩).toArray = #[.int .i64 yc, .int .i64 yr, .int .i64 yd] from rfl]
  go_enter Try.func117, Try.ntmps117
  go_wp2_with (fail)
  go_ret
  exact ⟨by simp [hw], 0, _, by rw [alloc_eq_grow, alloc_eq_grow, grow_grow]; rfl⟩
theorem rvl_swo : SWO (ltOf fun x y : {x : Rvl // 0 ≤ x.n ∧ x.n ≤ 1000} => x.1.n - y.1.n) where
  irrefl x := by unfold ltOf; simp
  trans x y z h1 h2 := by unfold ltOf at *; simp at *; omega
  ntrans x y z h1 h2 := by unfold ltOf at *; simp at *; omega
set_option maxRecDepth 100000 in
theorem rvl_sort (A : Option Addr) (c : Nat) (ls : List Rvl) (w : World) (hp : ∀ x ∈ ls, 0 ≤ x.n ∧ x.n ≤ 1000) (ho : Own Rvl.enc 3 224 w 0 (.slice A ls.length c) ls) (hsz : ls.length < 4611686018427387904) :
    Calls Try.prog 116 #[.slice A ls.length c, .func (.func 117) #[] #[]] w fun e w' => ∃ x : SortTo (fun x y : Rvl => x.n - y.n) ls, e = .returned (.tuple #[]) ∧ Mem ⟨0, blks [entOwn Rvl.enc 3 224 A c ls], w⟩ w' [entOwn Rvl.enc 3 224 A c x.1] := by
  have eg : ∀ args w, (callFunc 117 args).run Try.prog w = .ok (.enter 117 args) w := enters_of Try.func117 (by kernel_rfl) rfl
  haveI : Inhabited {x : Rvl // 0 ≤ x.n ∧ x.n ≤ 1000} := ⟨⟨⟨0, 0, 0⟩, by decide⟩⟩
  exact sort_memP srtRvl (cb := #[]) (p := fun x : Rvl => 0 ≤ x.n ∧ x.n ≤ 1000) Try.isAgg224 Try.sizeOf224 (fun _ => rfl) (fun x v hv => by simp [Rvl.enc] at hv; rcases hv with rfl | rfl | rfl <;> rfl) (fun x y => x.n - y.n) rvl_swo eg (fun x y W hx hy => by rw [show (#[Value.agg (Rvl.enc x).toArray, Value.agg (Rvl.enc y).toArray] ++ (#[] : Array Value)) = #[Value.agg (Rvl.enc x).toArray, Value.agg (Rvl.enc y).toArray] from Array.append_empty]; exact rvlCmp_any x y W hx hy) A c ls w hp ho hsz
end Go.Proofs.Ytbhjljnbjomnhaa

namespace Go.Proofs.Ytbhjljnbjomnhaa
open Go.RowKit

/-- a type that is no interface -/
class PlainT (P : Program) (t : Nat) : Prop where
  make : ∀ (v : Value) (w : World), (Instr.makeInterface t v).run P w = .ok (.iface t v) w
/-- an interface type -/
class IfaceT (P : Program) (t : Nat) : Prop where
  und : ∃ ms, P.underlying t = some (.interface ms)
theorem plainT_of {P : Program} {t : Nat} {fs : Array Field} (h : P.underlying t = some (.struct fs)) : PlainT P t := ⟨fun v w => by simp [Instr.makeInterface, run_underlying h]⟩
/-- a method of a type, called by value -/
class MethodOf (P : Program) (t : Nat) (name : String) (v : Value) (f : outParam Nat) (r : outParam Value) : Prop where
  run : ∀ w, (method (P.types.size + Made.depth) t v name).run P w = .ok (f, r) w
section
variable {P : Program} {C : Ctx} {Q : Exit → Act → World → Prop} {E : Slots} {S S1 R S2 : List Ent}
variable {d ty ty2 ty3 t : Nat} {ps : String} {af : Array Edge} {g0 : Option (Nat × Bool)} {f : Nat} {x y : Operand} {v r : Value}
theorem QS_makeInterface [hs : PlainT P t] (hx : evo E x = some v) : QS P C E S (.makeInterface t x) ty (.iface t v) :=
  QS.of (fun a w ha _ => by
    have := hs.make v w
    simp [execOp, ha.evo hx, this])
theorem run_equal_ifaceNil [h : IfaceT P t] (u : Nat) (v : Value) (w : World) : (Op.equal t (.iface u v) .nilIface).run P w = .ok false w := by
  obtain ⟨ms, h⟩ := h.und
  unfold Op.equal Op.maxDepth Op.equalIn
  simp [run_underlying h]
theorem run_equal_nilNil [h : IfaceT P t] (w : World) : (Op.equal t .nilIface .nilIface).run P w = .ok true w := by
  obtain ⟨ms, h⟩ := h.und
  unfold Op.equal Op.maxDepth Op.equalIn
  simp [run_underlying h]
theorem QS_ifaceSome [IfaceT P t] {u : Nat} (hx : evo E x = some (.iface u v)) (hy : evo E y = some .nilIface) : QS P C E S (.binOp .eql t x y ty3) ty (.bool false) :=
  QS.of (fun a w ha _ => by
    unfold execOp
    simp only [ha.evo hx, ha.evo hy]
    have hg : (eqGuard .eql t x y (.iface u v) .nilIface).run P w = .ok () w := rfl
    have hb : (binOp .eql t (.iface u v) .nilIface).run P w = .ok (.bool false) w := by
      unfold binOp; simp [run_equal_ifaceNil]
    simp only [Sem.run_bind, hg, Result.andThen_ok, hb]; rfl)
theorem QS_ifaceNil [IfaceT P t] {z : Value} (hx : evo E x = some .nilIface) (hz : z = .nilIface) : QS P C E S (.binOp .eql t x (.const z) ty3) ty (.bool true) :=
  QS.of (fun a w ha _ => by
    subst hz
    unfold execOp
    simp only [ha.evo hx]
    have hg : (eqGuard .eql t x (.const .nilIface) .nilIface .nilIface).run P w = .ok () w := by
      unfold eqGuard
      cases x <;> rfl
    have hb : (binOp .eql t .nilIface .nilIface).run P w = .ok (.bool true) w := by
      unfold binOp; simp [run_equal_nilNil]
    simp only [Act.eval, Sem.run_bind, hg, Result.andThen_ok, hb]; rfl)
/-- a method taken as a value: the look at its receiver -/
theorem QS_nilCheckM {u : Nat} {name : String} {cs : Array Value} (hx : evo E x = some (.func (.method name) #[.iface u v] cs)) (hm : ∀ w, (nilAhead (P.types.size + Made.depth) u v name).run P w = .ok (some false) w) : QS P C E S (.nilCheck x) ty (.func (.method name) #[.iface u v] cs) :=
  QS.of (fun a w ha _ => by
    have hp : (program).run P w = .ok P w := rfl
    simp [execOp, ha.evo hx, hp, hm w])
theorem run_invoke [hf : IsFn P f] {u : Nat} {name : String} {xs : List Operand} {vs : List Value} {ats : Array TypeId} (hv : evo E x = some (.iface u v)) (hm : MethodOf P u name v f r) (hx : evs E xs = some vs) {a : Act} {w : World} (ha : Env C.n a E) :
    (execOp a.eval ⟨some d, .call ⟨.invoke x name, xs.toArray, ats⟩, ty, ps, af, g0⟩).run P w = .ok (.enter f (r :: vs).toArray) w := by
  have h1 := ha.evo hv
  have h2 := evs_toArray ha hx
  have hp : (program).run P w = .ok P w := rfl
  have h3 := hf.run (r :: vs).toArray w
  have e1 : (#[Value.iface u v] ++ vs.toArray).extract 1 (#[Value.iface u v] ++ vs.toArray).size = vs.toArray := by simp
  have e2 : (#[Value.iface u v] ++ vs.toArray)[0]? = some (.iface u v) := by simp
  have e3 : #[r] ++ vs.toArray = (r :: vs).toArray := by simp
  simp only [execOp, resolve, h1, h2, Sem.run_bind, Sem.run_pure, Result.andThen_ok, invoke, e2, e1, callMethod, hp, hm.run w, e3, h3]
/-- a call of a method that leaves all alone -/
theorem ES_invokeV [hf : IsFn P f] {u : Nat} {name : String} {xs : List Operand} {vs : List Value} {ats : Array TypeId} {z : Value} (hv : evo E x = some (.iface u v)) (hm : MethodOf P u name v f r) (hx : evs E xs = some vs)
    (hc : ∀ w, Mem C w S → Calls P f (r :: vs).toArray w fun e w' => e = .returned z ∧ Below w.heap.size w w') (hd : Nat.ble (d + 1) C.n = true) :
    ES P C E S ⟨some d, .call ⟨.invoke x name, xs.toArray, ats⟩, ty, ps, af, g0⟩ (fun E' S' => E' = (d, z) :: E ∧ S' = S) := by
  refine (ES_enter (fun u T => u = z ∧ T = S) (fun a w ha => run_invoke hv hm hx ha) (fun w hw => (hc w hw).mono fun e w' ⟨he, hb⟩ => ⟨z, _, he, hw.below hb, rfl, rfl⟩) hd).weak (by rintro _ _ ⟨_, ⟨rfl, rfl⟩, rfl⟩; exact ⟨rfl, rfl⟩)
/-- a call of a method that turns what it is handed -/
theorem ES_invokeX [hf : IsFn P f] {X : Type} {u : Nat} {name : String} {xs : List Operand} {vs : List Value} {ats : Array TypeId} (z : X → Value) (S1' : X → List Ent) {S2 : X → List Ent} (hv : evo E x = some (.iface u v)) (hm : MethodOf P u name v f r) (hx : evs E xs = some vs)
    (hS : Pull S S1 R) (hA : ∀ x, AppL (S1' x) R (S2 x))
    (hc : ∀ w, Mem C w (S1 ++ R) → Calls P f (r :: vs).toArray w fun e w' => ∃ x, e = .returned (z x) ∧ Mem ⟨0, blks S1, w⟩ w' (S1' x)) (hd : Nat.ble (d + 1) C.n = true) :
    ES P C E S ⟨some d, .call ⟨.invoke x name, xs.toArray, ats⟩, ty, ps, af, g0⟩ (fun E' S' => ∃ x, E' = (d, z x) :: E ∧ S' = S2 x) :=
  (ES_enter (fun u T => ∃ x, u = z x ∧ T = S2 x) (fun a w ha => run_invoke hv hm hx ha) (fun w hw => (hc w (hw.pull hS)).mono fun e w' ⟨x, he, hb⟩ => ⟨z x, _, he, (hw.pull hS).frame hb, x, rfl, (hA x).eq⟩) hd).weak
    (by rintro _ _ ⟨_, ⟨x, rfl, rfl⟩, rfl⟩; exact ⟨x, rfl, rfl⟩)
/-- a call that turns what it is handed, to something of some shape -/
theorem ES_callX [hf : IsFn P f] {X : Type} {xs : List Operand} {vs : List Value} {ats : Array TypeId} (z : X → Value) (S1' : X → List Ent) {S2 : X → List Ent} (hx : evs E xs = some vs)
    (hS : Pull S S1 R) (hA : ∀ x, AppL (S1' x) R (S2 x))
    (hc : ∀ w, Mem C w (S1 ++ R) → Calls P f vs.toArray w fun e w' => ∃ x, e = .returned (z x) ∧ Mem ⟨0, blks S1, w⟩ w' (S1' x)) (hd : Nat.ble (d + 1) C.n = true) :
    ES P C E S ⟨some d, .call ⟨.value (.func f), xs.toArray, ats⟩, ty, ps, af, g0⟩ (fun E' S' => ∃ x, E' = (d, z x) :: E ∧ S' = S2 x) :=
  (ES_call (fun u T => ∃ x, u = z x ∧ T = S2 x) hx (fun w hw => (hc w (hw.pull hS)).mono fun e w' ⟨x, he, hb⟩ => ⟨z x, _, he, (hw.pull hS).frame hb, x, rfl, (hA x).eq⟩) hd).weak
    (by rintro _ _ ⟨_, ⟨x, rfl, rfl⟩, rfl⟩; exact ⟨x, rfl, rfl⟩)
end
/-! Structs without a cell -/
/-- a field without a cell, of a struct without one -/
class FieldZ (P : Program) (s f : Nat) : Prop where
  run : ∃ (fs : Array Field) (fd : Field), P.underlying s = some (.struct fs) ∧ fs[f]? = some fd ∧ fd.offset = 0 ∧ fd.byteOffset = 0 ∧ ∀ w, (sizeOf fd.type).run P w = .ok 0 w
class CellsZ (P : Program) (t : Nat) : Prop where
  z : P.cellsOf t = 0
theorem run_byteOf0 {P : Program} {g t o : Nat} [hz : CellsZ P t] {w : World} {cs : Array Value} (hb : Blk w g t cs) : (byteOf ⟨g, o, none⟩).run P w = .ok 0 w := by
  unfold Blk at hb
  have h1 : w.shape? g = some (t, cs.size) := by simp [World.shape?, hb]
  have hp : (program).run P w = .ok P w := rfl
  have hv : (noView ⟨g, o, none⟩).run P w = .ok () w := by simp [noView, viewAt, h1]
  simp [byteOf, hp, hv, h1, hz.z]
section
variable {P : Program} {C : Ctx} {E : Slots} {S : List Ent} {ty g t s f : Nat} {x : Operand} {cs : Array Value}
theorem QS_fieldZ [hs : FieldZ P s f] [hz : CellsZ P s] (hx : evo E x = some (.pointer (some ⟨g, 0, none⟩))) (hm : entBlk g s cs ∈ S) : QS P C E S (.fieldAddr s x f) ty (.pointer (some ⟨g, 0, none⟩)) :=
  QS.of (fun a w ha hw => by
    obtain ⟨fs, fd, h1, h2, h3, h4, h5⟩ := hs.run
    have hb : Blk w g s cs := (hw.holds _ hm).1
    have := run_byteOf0 (P := P) (o := 0) hb
    simp [execOp, ha.evo hx, Instr.fieldAt, run_underlying h1, h2, Instr.sureAddr, fieldPlace, h5 w, partAt, this, h3, h4])
theorem Lds.zero [hs : AggOf P s 0] (ad : Addr) : Lds P C S s ad (.agg #[]) := fun w hw => by
  have : (loadCells ad 0).run P w = .ok #[] w := rfl
  simp [loadVar, hs.agg w, hs.size w, this]
end
end Go.Proofs.Ytbhjljnbjomnhaa
