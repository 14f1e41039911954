/- Lemmas for the walks (Srt, SrtStp, Tk5, Bdq). No condition. -/
import Derived.Test.YtbhjljnbjomnhaaG04
import Derived.Test.YtbhjljnbjomnhaaG06
import Derived.Shelf.SlSortCmp.NoneTotal
import Derived.Test.YtbhjljnbjomnhaaG12
import Derived.Test.YtbhjljnbjomnhaaG10
import Derived.Test.YtbhjljnbjomnhaaG09
import Derived.Test.YtbhjljnbjomnhaaG07
set_option linter.unusedSimpArgs false
set_option linter.unusedVariables false
set_option linter.unusedSectionVars false
set_option linter.unnecessarySimpa false
namespace Go.Proofs.Ytbhjljnbjomnhaa
open Go.RowKit Go.Shelf Go.Lib Go.Sort

theorem flatK_list {α : Type} [Inhabited α] {enc : α → List Value} {k : Nat} (hk : ∀ x, (enc x).length = k) (d : Array α) : (flatK enc k d).toList = d.toList.flatMap enc := by
  apply List.ext_getElem?
  intro t
  by_cases ht : t < d.size * k
  · have k0 : 0 < k := by
      rcases Nat.eq_zero_or_pos k with h | h
      · subst h; simp at ht
      · exact h
    have hq : t / k < d.size := (Nat.div_lt_iff_lt_mul k0).2 ht
    have hr : t % k < k := Nat.mod_lt _ k0
    have h2 := flat_at hk d.toList (t / k) (by simpa using hq) (t % k) hr
    rw [Nat.div_add_mod'] at h2
    rw [h2]
    have h3 := get_flatK enc k d t ht
    have h4 : (flatK enc k d).toList[t]? = some ((flatK enc k d)[t]!) := by
      rw [getElem!_pos _ t (by simpa using ht), Array.getElem?_toList]
      exact Array.getElem?_eq_getElem _
    rw [h4, h3]
    have e : d[t / k]! = d.toList[t / k]'(by simpa using hq) := by rw [getElem!_pos d _ hq]; simp
    have hl : t % k < (enc (d.toList[t / k]'(by simpa using hq))).length := by rw [hk]; exact hr
    rw [e, getElem!_pos (enc (d.toList[t / k]'(by simpa using hq))) (t % k) hl]
    exact (List.getElem?_eq_getElem hl).symm
  · rw [List.getElem?_eq_none (by simp; omega), List.getElem?_eq_none (by rw [flat_len hk]; simp; omega)]
theorem putRowK_heap {α : Type} [Inhabited α] {enc : α → List Value} {k : Nat} {w : World} {g n : Nat} {d : Array α} {os : Array Obj} {cur : Array Value} {e : TypeId} {tg : Nat × Nat} (hg : w.heap[g]? = some (.cells cur e tg)) :
    (sortWorldK enc k w g 0 n d os).heap[g]? = some (.cells (putCells id 0 (flatK enc k d) cur) e tg) := by
  have hlt : g < w.heap.size := (Array.getElem?_eq_some_iff.1 hg).1
  show ((w.heap.modify g (onCells (putCells id 0 (flatK enc k d)))) ++ os)[g]? = _
  rw [Array.getElem?_append_left (by simpa using hlt), Array.getElem?_modify, if_pos rfl, hg]
  rfl
theorem putRowK_keeps {α : Type} [Inhabited α] {enc : α → List Value} {k : Nat} {w : World} {g n : Nat} {d : Array α} {os : Array Obj} : Keeps [g] w (sortWorldK enc k w g 0 n d os) := by
  refine ⟨rfl, rfl, rfl, ?_, fun j hj hn => ?_⟩
  · show w.heap.size ≤ ((w.heap.modify g _) ++ os).size
    simp
  · show ((w.heap.modify g _) ++ os)[j]? = _
    rw [Array.getElem?_append_left (by simpa using hj), Array.getElem?_modify, if_neg (fun e => hn (by simp [e]))]
theorem take_putCells {v cur : Array Value} (h : v.size ≤ cur.size) : (putCells id 0 v cur).toList.take v.size = v.toList := by
  apply List.ext_getElem?
  intro t
  rw [List.getElem?_take]
  by_cases ht : t < v.size
  · rw [if_pos ht, Array.getElem?_toList]
    unfold putCells
    rw [Array.getElem?_mapIdx, Array.getElem?_eq_getElem (by omega)]
    simp only [Option.map_some, Nat.zero_le, Nat.zero_add, true_and, Nat.sub_zero, id, ht, if_true]
    rw [getElem!_pos v t ht, Array.getElem?_toList, Array.getElem?_eq_getElem ht]
  · rw [if_neg ht, List.getElem?_eq_none (by simp; omega)]
/-- what the sort makes of a list -/
abbrev SortTo {α : Type} (cf : α → α → Int) (ls : List α) := {S : List α // S.Perm ls ∧ S.Pairwise fun a b => ¬ cf b a < 0}
section
variable {P : Program} {ρ : Ren} {α : Type} [Inhabited α] (L : SlLaysF0.n6 P ρ) {enc : α → List Value} {k et g : Nat} {cb : Array Value} (aE : ∀ w, (isAgg (ρ.t 24)).run P w = .ok true w) (zE : ∀ w, (Go.sizeOf (ρ.t 24)).run P w = .ok k w)
  (hk : ∀ x, (enc x).length = k) (h1 : ∀ x, ∀ v ∈ enc x, v.oneCell' = true) (cf : α → α → Int) (hO : SWO (ltOf cf)) (eg : ∀ args w, (callFunc g args).run P w = .ok (.enter g args) w)
  (hcmp : ∀ (x y : α) (W : World), Calls P g (#[.agg (enc x).toArray, .agg (enc y).toArray] ++ cb) W fun e w' => e = .returned (.int .i64 (cf x y)) ∧ ∃ q os', w' = grow (W.drewN q) os')
include L aE zE hk h1 hO eg hcmp
theorem sort_mem (A : Option Addr) (c : Nat) (ls : List α) (w : World) (ho : Own enc k et w 0 (.slice A ls.length c) ls) (hsz : ls.length < 4611686018427387904) :
    Calls P (ρ.f 6) #[.slice A ls.length c, .func (.func g) #[] cb] w fun e w' => ∃ x : SortTo cf ls, e = .returned (.tuple #[]) ∧ Mem ⟨0, blks [entOwn enc k et A c ls], w⟩ w' [entOwn enc k et A c x.1] := by
  have hbase : Mem ⟨0, blks [entOwn enc k et A c ls], w⟩ w [entOwn enc k et A c ls] := by
    refine ⟨Keeps.refl _ _, fun e he => ?_, by simp⟩
    rw [List.mem_singleton] at he
    subst he
    exact ⟨ho, fun g hg => ⟨(World.ownsRow.lt ho g hg).2, .inl (by simp [blks, (entOwn enc k et A c ls).hfin, hg])⟩⟩
  rcases Nat.eq_zero_or_pos ls.length with h0 | hpos
  · obtain rfl : ls = [] := List.length_eq_zero_iff.1 h0
    refine (AnyF.slices_SortFunc_none { L with } A c (.func (.func g) #[] cb) w).mono ?_
    rintro e w' ⟨rfl, rfl⟩
    exact ⟨⟨[], List.Perm.refl _, .nil⟩, rfl, hbase⟩
  rcases ho.2 with ⟨hv, h0⟩ | ⟨gg, cap, cur, hv, hbb, hg, hnc, hcm, hcs, htake⟩
  · omega
  simp only [Value.slice.injEq] at hv
  obtain ⟨rfl, -, rfl⟩ := hv
  have hlt : gg < w.heap.size := (Array.getElem?_eq_some_iff.1 hg).1
  have hfl := flat_len hk ls
  have hle : ls.length * k ≤ cur.size := by rw [hcs]; exact Nat.mul_le_mul_right k hnc
  have hH : HoldsK enc k w gg 0 ls.toArray := by
    intro j hj
    rw [size_flatK] at hj
    simp only [List.size_toArray] at hj
    have hf : (flatK enc k ls.toArray).toList = ls.flatMap enc := flatK_list hk _
    have hjt : cur[j]? = some ((flatK enc k ls.toArray)[j]!) := by
      have e1 : (ls.flatMap enc)[j]? = cur[j]? := by
        rw [← htake, List.getElem?_take, if_pos hj, Array.getElem?_toList]
      rw [← e1, ← hf, Array.getElem?_toList, getElem!_pos _ j (by simpa using hj)]
      exact Array.getElem?_eq_getElem _
    refine ⟨?_, ?_⟩
    · simp only [World.cell?, hg, Nat.zero_add, id]
      exact hjt
    · simp [World.frozen?, hg]
  have hcl : CmpLays P g cb enc k cf gg 0 ls.toArray.size w := fun m os dk _ x y => hcmp x y _
  refine (AnyQ.slices_SortFunc L k aE zE enc hk h1 cf hO g cb gg 0 c ls.toArray w eg hcl hH hlt (by simpa using hsz)).mono ?_
  rintro e w' ⟨rfl, d', n, os, hperm, hsort, rfl⟩
  obtain ⟨p1, p2, p3⟩ := hperm
  simp only [List.size_toArray] at p1 p3 hsort
  have hd : (d'.extract 0 ls.length).toList = d'.toList := by rw [← p1]; simp
  have hl : (ls.toArray.extract 0 ls.length).toList = ls := by simp
  rw [hd, hl] at p3
  have hdl : d'.toList.length = ls.length := by simpa using p1
  refine ⟨⟨d'.toList, p3, ?_⟩, rfl, ?_⟩
  · rw [List.pairwise_iff_getElem]
    intro i j hi hj hij
    have := hsort i j (by omega) hij (by omega)
    rw [getElem!_pos d' j (by simpa using hj), getElem!_pos d' i (by simpa using hi)] at this
    simpa [ltOf] using this
  · refine hbase.upd (Upd.here _ _ _) putRowK_keeps (fun q hq => ?_) (fun q hq => ?_) ?_
    · rw [List.mem_singleton] at hq
      subst hq
      simp [entOwn, Value.ownBlock]
    · have hq' : some gg = some q := hq
      cases hq'
      exact ⟨Nat.lt_of_lt_of_le hlt (putRowK_keeps (enc := enc)).size, .inl rfl⟩
    · show Own enc k et _ 0 (.slice (some ⟨gg, 0, none⟩) d'.toList.length c) d'.toList
      refine ⟨flat_len hk _, .inr ⟨gg, c, _, by rw [hdl], Nat.zero_le _, putRowK_heap hg, by rw [hdl]; exact hnc, hcm, by simp [putCells, hcs], ?_⟩⟩
      rw [← flatK_list hk, ← take_putCells (v := flatK enc k d') (cur := cur) (by rw [size_flatK, p1]; exact hle), size_flatK, p1, hdl]
end
theorem flat_map {α β : Type} (f : β → α) (enc : α → List Value) : ∀ l : List β, (l.flatMap fun x => enc (f x)) = (l.map f).flatMap enc
  | [] => rfl
  | x :: l => by rw [List.flatMap_cons, List.map_cons, List.flatMap_cons, flat_map f enc l]
theorem own_map {α β : Type} {f : β → α} {enc : α → List Value} {k et c B : Nat} {A : Option Addr} {w : World} {l : List β} {n : Nat} : Own (fun x => enc (f x)) k et w B (.slice A n c) l ↔ Own enc k et w B (.slice A n c) (l.map f) := by
  unfold Own
  rw [flat_map, List.length_map]
section
variable {P : Program} {ρ : Ren} {α : Type} (L : SlLaysF0.n6 P ρ) {enc : α → List Value} {k et g : Nat} {cb : Array Value} (aE : ∀ w, (isAgg (ρ.t 24)).run P w = .ok true w) (zE : ∀ w, (Go.sizeOf (ρ.t 24)).run P w = .ok k w)
  (hk : ∀ x, (enc x).length = k) (h1 : ∀ x, ∀ v ∈ enc x, v.oneCell' = true) (cf : α → α → Int) {p : α → Prop} [Inhabited {x // p x}] (hO : SWO (ltOf fun x y : {x // p x} => cf x.1 y.1)) (eg : ∀ args w, (callFunc g args).run P w = .ok (.enter g args) w)
  (hcmp : ∀ (x y : α) (W : World), p x → p y → Calls P g (#[.agg (enc x).toArray, .agg (enc y).toArray] ++ cb) W fun e w' => e = .returned (.int .i64 (cf x y)) ∧ ∃ q os', w' = grow (W.drewN q) os')
include L aE zE hk h1 hO eg hcmp
/-- the same, where the items are of a kind -/
theorem sort_memP (A : Option Addr) (c : Nat) (ls : List α) (w : World) (hp : ∀ x ∈ ls, p x) (ho : Own enc k et w 0 (.slice A ls.length c) ls) (hsz : ls.length < 4611686018427387904) :
    Calls P (ρ.f 6) #[.slice A ls.length c, .func (.func g) #[] cb] w fun e w' => ∃ x : SortTo cf ls, e = .returned (.tuple #[]) ∧ Mem ⟨0, blks [entOwn enc k et A c ls], w⟩ w' [entOwn enc k et A c x.1] := by
  obtain ⟨l2, hl2⟩ : ∃ l2 : List {x // p x}, l2.map Subtype.val = ls := ⟨ls.pmap Subtype.mk hp, by rw [List.map_pmap]; simp⟩
  subst hl2
  rw [List.length_map] at ho hsz ⊢
  refine (sort_mem L (enc := fun x : {x // p x} => enc x.1) (et := et) aE zE (fun x => hk x.1) (fun x => h1 x.1) (fun x y => cf x.1 y.1) hO eg (fun x y W => hcmp x.1 y.1 W x.2 y.2) A c l2 w (own_map.2 ho) hsz).mono ?_
  rintro e w' ⟨x, rfl, hm⟩
  have hfin : ∀ l : List {x // p x}, (entOwn (fun x : {x // p x} => enc x.1) k et A c l).fin = (entOwn enc k et A c (l.map Subtype.val)).fin := fun l => by
    show (Value.slice A l.length c).ownBlock.toList = (Value.slice A (l.map Subtype.val).length c).ownBlock.toList
    rw [List.length_map]
  have hhas : ∀ (l : List {x // p x}) q, (entOwn (fun x : {x // p x} => enc x.1) k et A c l).has q = (entOwn enc k et A c (l.map Subtype.val)).has q := fun l q => by
    show ((Value.slice A l.length c).ownBlock = some q) = ((Value.slice A (l.map Subtype.val).length c).ownBlock = some q)
    rw [List.length_map]
  have hF : blks [entOwn (fun x : {x // p x} => enc x.1) k et A c l2] = blks [entOwn enc k et A c (l2.map Subtype.val)] := by
    simp only [blks, hfin]
  rw [hF] at hm
  refine ⟨⟨x.1.map Subtype.val, x.2.1.map _, ?_⟩, rfl, ?_⟩
  · rw [List.pairwise_map]; exact x.2.2
  · refine ⟨hm.keeps, fun e he => ?_, by simp⟩
    rw [List.mem_singleton] at he
    subst he
    have h2 := hm.holds _ (List.mem_singleton.2 rfl)
    refine ⟨?_, fun q hq => h2.2 q (by rw [hhas]; exact hq)⟩
    show Own enc k et w' 0 (.slice A (x.1.map Subtype.val).length c) (x.1.map Subtype.val)
    rw [List.length_map]
    exact own_map.1 h2.1
end
end Go.Proofs.Ytbhjljnbjomnhaa

namespace Go.Proofs.Ytbhjljnbjomnhaa
open Go.RowKit Go.Shelf Go.Lib

def rhoStp : Ren := ⟨fun n => if n = 6 then 60 else if n = 14 then 113 else if n = 15 then 114 else if n = 20 then 153 else if n = 21 then 154 else if n = 22 then 155 else if n = 23 then 156 else if n = 24 then 157 else if n = 25 then 158 else if n = 26 then 159 else if n = 27 then 160 else if n = 28 then 161 else if n = 29 then 162 else if n = 46 then 187 else if n = 47 then 188 else if n = 48 then 189 else if n = 49 then 190 else if n = 50 then 191 else if n = 57 then 222 else n, fun n => if n = 0 then 0 else if n = 3 then 3 else if n = 4 then 4 else if n = 5 then 5 else if n = 9 then 9 else if n = 22 then 25 else if n = 24 then 39 else if n = 25 then 128 else if n = 39 then 117 else if n = 45 then 273 else if n = 46 then 274 else if n = 50 then 40 else if n = 53 then 280 else if n = 55 then 282 else if n = 66 then 314 else if n = 70 then 318 else if n = 76 then 337 else if n = 77 then 338 else n, fun n => n⟩
set_option maxRecDepth 100000 in
theorem srtStp : SlLaysF0.n6 Try.prog rhoStp where
  mixed := by kernel_rfl
  f6 := ⟨ "slices.SortFunc[[]alibi/api.Step,alibi/api.Step]", rfl, by kernel_rfl⟩
  f14 := ⟨ "slices.pdqsortCmpFunc[alibi/api.Step]", rfl, by kernel_rfl⟩
  f15 := by kernel_rfl
  f20 := ⟨ "slices.insertionSortCmpFunc[alibi/api.Step]", rfl, by kernel_rfl⟩
  f21 := ⟨ "slices.heapSortCmpFunc[alibi/api.Step]", rfl, by kernel_rfl⟩
  f22 := ⟨ "slices.breakPatternsCmpFunc[alibi/api.Step]", rfl, by kernel_rfl⟩
  f23 := ⟨ "slices.choosePivotCmpFunc[alibi/api.Step]", rfl, by kernel_rfl⟩
  f24 := ⟨ "slices.reverseRangeCmpFunc[alibi/api.Step]", rfl, by kernel_rfl⟩
  f25 := ⟨ "slices.partialInsertionSortCmpFunc[alibi/api.Step]", rfl, by kernel_rfl⟩
  f26 := ⟨ "slices.partitionEqualCmpFunc[alibi/api.Step]", rfl, by kernel_rfl⟩
  f27 := ⟨ "slices.partitionCmpFunc[alibi/api.Step]", rfl, by kernel_rfl⟩
  f28 := by kernel_rfl
  f29 := by kernel_rfl
  f46 := ⟨ "slices.siftDownCmpFunc[alibi/api.Step]", rfl, by kernel_rfl⟩
  f47 := by kernel_rfl
  f48 := by kernel_rfl
  f49 := ⟨ "slices.medianAdjacentCmpFunc[alibi/api.Step]", rfl, by kernel_rfl⟩
  f50 := ⟨ "slices.medianCmpFunc[alibi/api.Step]", rfl, by kernel_rfl⟩
  f57 := ⟨ "slices.order2CmpFunc[alibi/api.Step]", rfl, by kernel_rfl⟩
  t0 := Try.underlying0
  a0 := Try.isAgg0
  z0 := Try.sizeOf0
  v0 := Try.zeroValue0
  t3 := Try.underlying3
  a3 := Try.isAgg3
  z3 := Try.sizeOf3
  v3 := Try.zeroValue3
  t4 := Try.underlying4
  a4 := Try.isAgg4
  z4 := Try.sizeOf4
  v4 := Try.zeroValue4
  t5 := Try.underlying5
  a5 := Try.isAgg5
  z5 := Try.sizeOf5
  v5 := Try.zeroValue5
  t9 := Try.underlying9
  a9 := Try.isAgg9
  z9 := Try.sizeOf9
  v9 := Try.zeroValue9
  t22 := Try.underlying25
  a22 := Try.isAgg25
  z22 := Try.sizeOf25
  v22 := Try.zeroValue25
  t25 := Try.underlying128
  a25 := Try.isAgg128
  z25 := Try.sizeOf128
  v25 := Try.zeroValue128
  t39 := Try.underlying117
  a39 := Try.isAgg117
  z39 := Try.sizeOf117
  v39 := Try.zeroValue117
  t45 := Try.underlying273
  a45 := Try.isAgg273
  z45 := Try.sizeOf273
  v45 := Try.zeroValue273
  t46 := Try.underlying274
  a46 := Try.isAgg274
  z46 := Try.sizeOf274
  v46 := Try.zeroValue274
  t50 := Try.underlying40
  a50 := Try.isAgg40
  z50 := Try.sizeOf40
  v50 := Try.zeroValue40
  t53 := Try.underlying280
  a53 := Try.isAgg280
  z53 := Try.sizeOf280
  v53 := Try.zeroValue280
  t55 := Try.underlying282
  a55 := Try.isAgg282
  z55 := Try.sizeOf282
  v55 := Try.zeroValue282
  t66 := Try.underlying314
  a66 := Try.isAgg314
  z66 := Try.sizeOf314
  v66 := Try.zeroValue314
  t70 := Try.underlying318
  a70 := Try.isAgg318
  z70 := Try.sizeOf318
  v70 := Try.zeroValue318
  t76 := Try.underlying337
  a76 := Try.isAgg337
  z76 := Try.sizeOf337
  v76 := Try.zeroValue337
  t77 := Try.underlying338
  a77 := Try.isAgg338
  z77 := Try.sizeOf338
  v77 := Try.zeroValue338
end Go.Proofs.Ytbhjljnbjomnhaa

namespace Go.Proofs.Ytbhjljnbjomnhaa
open Go.RowKit Go.Shelf Go.Lib Go.Sort

section
variable {P : Program} {C : Ctx} {E : Slots} {S : List Ent} {ty s f : Nat} {x : Operand} {u v : Value}
theorem QS_fieldV (hx : evo E x = some u) (h : ∀ w, (Instr.field s u f).run P w = .ok v w) : QS P C E S (.field s x f) ty v :=
  QS.of (fun a w ha _ => by simp [execOp, ha.evo hx, h])
end
theorem bad_kind (a b c : Int) (w : World) : (Instr.field 48 (.agg #[.int .i64 a, .int .i64 b, .int .i64 c]) 0).run Try.prog w = .ok (.int .i64 a) w := by kernel_rfl
set_option maxHeartbeats 1000000 in
theorem order1_any (x y : Stp) (W : World) (hx : 0 ≤ x.res ∧ x.res ≤ 1000) (hy : 0 ≤ y.res ∧ y.res ≤ 1000) : Calls Try.prog 61 #[.agg (Stp.enc x).toArray, .agg (Stp.enc y).toArray] W fun e w' => e = .returned (.int .i64 (x.res - y.res)) ∧ ∃ q os', w' = grow (W.drewN q) os' := by
  obtain ⟨xc, xr⟩ := x
  obtain ⟨yc, yr⟩ := y
  dsimp only at hx hy ⊢
  have hw : IntKind.i64.wrap (xr - yr) = xr - yr := IntWalk.i64_in _ ⟨by omega, by omega⟩
  rw [show (Stp.enc ⟨xc, xr⟩).toArray = #[.int .i64 xc, .int .i64 xr] from rfl, show (Stp.enc ⟨yc, yr⟩).toArray = #[.int .i64 yc, .int .i64 yr] from rfl]
  go_enter Try.func61, Try.ntmps61
  go_wp2_with (fail)
  go_ret
  exact ⟨by simp [hw], 0, _, by rw [alloc_eq_grow, alloc_eq_grow, grow_grow]; rfl⟩
theorem order_swo : SWO (ltOf fun x y : {x : Stp // 0 ≤ x.res ∧ x.res ≤ 1000} => x.1.res - y.1.res) where
  irrefl x := by unfold ltOf; simp
  trans x y z h1 h2 := by unfold ltOf at *; simp at *; omega
  ntrans x y z h1 h2 := by unfold ltOf at *; simp at *; omega
set_option maxRecDepth 100000 in
theorem order_sort (A : Option Addr) (c : Nat) (ls : List Stp) (w : World) (hp : ∀ x ∈ ls, 0 ≤ x.res ∧ x.res ≤ 1000) (ho : Own Stp.enc 2 39 w 0 (.slice A ls.length c) ls) (hsz : ls.length < 4611686018427387904) :
    Calls Try.prog 60 #[.slice A ls.length c, .func (.func 61) #[] #[]] w fun e w' => ∃ x : SortTo (fun x y : Stp => x.res - y.res) ls, e = .returned (.tuple #[]) ∧ Mem ⟨0, blks [entOwn Stp.enc 2 39 A c ls], w⟩ w' [entOwn Stp.enc 2 39 A c x.1] := by
  have eg : ∀ args w, (callFunc 61 args).run Try.prog w = .ok (.enter 61 args) w := enters_of Try.func61 (by kernel_rfl) rfl
  haveI : Inhabited {x : Stp // 0 ≤ x.res ∧ x.res ≤ 1000} := ⟨⟨⟨0, 0⟩, by decide⟩⟩
  exact sort_memP srtStp (cb := #[]) (p := fun x : Stp => 0 ≤ x.res ∧ x.res ≤ 1000) Try.isAgg39 Try.sizeOf39 (fun _ => rfl) (fun x v hv => by simp [Stp.enc] at hv; rcases hv with rfl | rfl <;> rfl) (fun x y => x.res - y.res) order_swo eg (fun x y W hx hy => by rw [show (#[Value.agg (Stp.enc x).toArray, Value.agg (Stp.enc y).toArray] ++ (#[] : Array Value)) = #[Value.agg (Stp.enc x).toArray, Value.agg (Stp.enc y).toArray] from Array.append_empty]; exact order1_any x y W hx hy) A c ls w hp ho hsz
def tkR (l : List Ev) : Bool × Bd × Int := if (callsR [5] l).2.2 = 0 then (decide ((checkT (callsR [5] l).1).kind = 0), checkT (callsR [5] l).1, 0) else (false, ⟨0, 0, 0⟩, (callsR [5] l).2.2)
def ordR (l : List Ev) : List Stp × Int := if (callsR [5] l).2.2 = 0 then (if (checkT (callsR [5] l).1).kind = 0 then (wantL (callsR [5] l).1 (numT (callsR [5] l).1), 0) else ([], 4)) else ([], (callsR [5] l).2.2)
theorem numT_bd {cs : List Cl} (h : TkOk cs) : numT cs ≤ 1001 := by
  have := mostK_bd h cs.length (Nat.le_refl _)
  unfold numT; omega
section
variable (B0 : Option Addr) (d0 : Nat) (l : List Ev) (w : World) (hl : l.length ≤ 9223372036854775807) (hA : RdEv w B0 l)
include hl hA
set_option maxRecDepth 100000 in
set_option maxHeartbeats 4000000 in
theorem tkCheckA_any : Calls Try.prog 17 #[.slice B0 l.length d0] w fun e w' => e = .returned (.tuple #[.bool (tkR l).1, .agg (Bd.enc (tkR l).2.1).toArray, .int .i64 (tkR l).2.2]) ∧ Below w.heap.size w w' := by
  by_cases h : (callsR [5] l).2.2 = 0
  · have hok := tkOk_of h
    have hrd := fun w h1 => tkRead_ok B0 d0 l w hl h1 h
    unfold tkR
    rw [if_pos h]
    generalize (callsR [5] l).1 = cs at *
    clear h
    have hnb := numT_bd hok
    have hml : (missT cs).length ≤ 2000 := Nat.le_trans (missK_len cs _) (by omega)
    have hck := fun gl A1 PA MA c1 pc mc w h1 h2 h3 h4 hca => tkCheck_any gl A1 PA MA c1 pc mc cs (pendT cs) (missT cs) w h1 h2 hok.few h3 h4 rfl rfl hml hca
    generalize checkT cs = V at *
    obtain ⟨vk, va, vb⟩ := V
    rw [show Bd.enc ⟨vk, va, vb⟩ = [.int .i64 vk, .int .i64 va, .int .i64 vb] from rfl] at *
    refine calls_T (S := []) [] Try.func17 rfl Try.ntmps17 (by simp) (Mem.nil _) ?_
    repeat' (first | ((first | with_reducible (first | apply TL_q | apply TD_q0 | apply TD_q1 | apply TD_q2 | apply TD_q3) | ((with_reducible (first | apply TD_q0y | apply TD_q1y)); exact rfl; exact rfl; (with_reducible exact rfl))); (first | ((with_reducible apply QS_fieldV); exact rfl; exact fun w => bad_kind _ _ _ w) | exact QS.auto); exact rfl) | (refine GO ?_) | (refine GOE ?_; (first | (rintro _ _ ⟨rfl, rfl⟩) | (rintro _ _ ⟨g, rfl, rfl⟩) | (rintro _ _ ⟨A', c', rfl, rfl⟩))) | ((refine GO2 ?_ ?_) <;> intro h <;> (try (repeat (first | with_reducible (replace h := of_decide_eq_true h) | with_reducible (replace h := of_decide_eq_false h) | with_reducible (replace h := bnt h) | with_reducible (replace h := bnf h) | with_reducible (replace h := Int.not_lt.mp h) | with_reducible (replace h := Int.not_le.mp h) | with_reducible (replace h := band_dec h) | with_reducible (replace h := band_decF h) | with_reducible (replace h := bor_dec h) | with_reducible (replace h := bor_decF h)))) <;> (try (exfalso; first | contradiction | omega))) | ((with_reducible (first | apply TD_e2z | apply TD_e3z | apply TL_e | apply TD_e2 | apply TD_e3)); ((with_reducible apply ES_callNew (f := 58) (v := fun L : LG => .tuple #[.pointer (some ⟨L.g, 0, none⟩), .int .i64 0]) (S1 := fun L : LG => [entBlk L.g 126 #[.slice L.A cs.length L.ca, .slice L.P (pendT cs).length L.cp, .slice L.M (missT cs).length L.cm], entOwn Cl.enc 7 43 L.A L.ca cs, entOwn natEnc 1 3 L.P L.cp (pendT cs), entOwn natEnc 1 3 L.M L.cm (missT cs)])); exact rfl; (intro x; (try dsimp only); repeat (first | exact AppL.nil _ | apply AppL.cons)); (intro w hw; exact hrd w (hw.rd rfl hA)); exact rfl); (first | exact rfl | exact ⟨rfl, rfl, rfl⟩); (rintro _ _ ⟨⟨gl, A1, c1, PA, pc, MA, mc⟩, rfl, rfl⟩); (try refine ⟨SUB, ?_⟩)) | fail)
    dsimp only
    refine TL_fact (p := cs.length ≤ c1 ∧ (A1 = none → c1 = 0)) (fun w hw => hw.ownFacts (enc := Cl.enc) (M := 7) (et := 43) (by first | ((repeat (first | with_reducible exact List.mem_cons_self | with_reducible apply List.mem_cons_of_mem)); done) | (repeat (first | exact List.Mem.head _ | apply List.Mem.tail)))) fun hf0 => ?_
    have hca := hf0.1
    repeat' (first | ((first | with_reducible (first | apply TL_q | apply TD_q0 | apply TD_q1 | apply TD_q2 | apply TD_q3) | ((with_reducible (first | apply TD_q0y | apply TD_q1y)); exact rfl; exact rfl; (with_reducible exact rfl))); (first | ((with_reducible apply QS_fieldV); exact rfl; exact fun w => bad_kind _ _ _ w) | exact QS.auto); exact rfl) | (refine GG ?_) | (refine GE ?_; (first | (rintro _ _ ⟨rfl, rfl⟩) | (rintro _ _ ⟨g, rfl, rfl⟩) | (rintro _ _ ⟨A', c', rfl, rfl⟩)); (try refine ⟨SUB, ?_⟩)) | ((refine GO2 ?_ ?_) <;> intro h <;> (try (repeat (first | with_reducible (replace h := of_decide_eq_true h) | with_reducible (replace h := of_decide_eq_false h) | with_reducible (replace h := bnt h) | with_reducible (replace h := bnf h) | with_reducible (replace h := Int.not_lt.mp h) | with_reducible (replace h := Int.not_le.mp h) | with_reducible (replace h := band_dec h) | with_reducible (replace h := band_decF h) | with_reducible (replace h := bor_dec h) | with_reducible (replace h := bor_decF h)))) <;> (try (exfalso; first | contradiction | omega))) | (refine GOF ?_ ?_) | ((with_reducible apply T_draw (id := 5) 5 (OT.seq [(0, 0), (1, 1), (0, 2), (0, 4), (1, 3), (3, 5), (0, 6)] .nil)); kernel_rfl; exact rfl; kernel_rfl; (repeat (first | with_reducible exact Blind.body | with_reducible apply Blind.seq | with_reducible apply Blind.block))) | ((with_reducible (first | apply TD_e2z | apply TD_e3z | apply TL_e | apply TD_e2 | apply TD_e3)); ((with_reducible apply ES_callV (f := 59)); exact rfl; (intro w hw; exact hck gl A1 PA MA c1 pc mc w (hw.holds _ (by first | ((repeat (first | with_reducible exact List.mem_cons_self | with_reducible apply List.mem_cons_of_mem)); done) | (repeat (first | exact List.Mem.head _ | apply List.Mem.tail)))).1 (hw.ownRd (by first | ((repeat (first | with_reducible exact List.mem_cons_self | with_reducible apply List.mem_cons_of_mem)); done) | (repeat (first | exact List.Mem.head _ | apply List.Mem.tail))) (fun _ => rfl)) (hw.ownRd (by first | ((repeat (first | with_reducible exact List.mem_cons_self | with_reducible apply List.mem_cons_of_mem)); done) | (repeat (first | exact List.Mem.head _ | apply List.Mem.tail))) (fun _ => rfl)) (hw.ownRd (by first | ((repeat (first | with_reducible exact List.mem_cons_self | with_reducible apply List.mem_cons_of_mem)); done) | (repeat (first | exact List.Mem.head _ | apply List.Mem.tail))) (fun _ => rfl)) hca); exact rfl); (first | exact rfl | exact ⟨rfl, rfl, rfl⟩); (rintro _ _ ⟨rfl, rfl⟩); (try refine ⟨SUB, ?_⟩)) | fail)
    ((with_reducible apply At_retM Try.results17); (repeat (first | exact ResIs.nil | (apply ResIs.tmp; exact rfl) | (apply ResIs.cell; exact rfl; exact Lds.auto))); intro w' hw)
    exact ⟨rfl, hw.below0 rfl⟩
  · have hrd := fun w h1 => tkRead_err B0 d0 l w hl h1 h
    unfold tkR
    rw [if_neg h]
    generalize (callsR [5] l).2.2 = er at *
    refine calls_T (S := []) [] Try.func17 rfl Try.ntmps17 (by simp) (Mem.nil _) ?_
    repeat' (first | ((first | with_reducible (first | apply TL_q | apply TD_q0 | apply TD_q1 | apply TD_q2 | apply TD_q3) | ((with_reducible (first | apply TD_q0y | apply TD_q1y)); exact rfl; exact rfl; (with_reducible exact rfl))); (first | ((with_reducible apply QS_fieldV); exact rfl; exact fun w => bad_kind _ _ _ w) | exact QS.auto); exact rfl) | (refine GO ?_) | (refine GOE ?_; (first | (rintro _ _ ⟨rfl, rfl⟩) | (rintro _ _ ⟨g, rfl, rfl⟩) | (rintro _ _ ⟨A', c', rfl, rfl⟩))) | ((refine GO2 ?_ ?_) <;> intro h <;> (try (repeat (first | with_reducible (replace h := of_decide_eq_true h) | with_reducible (replace h := of_decide_eq_false h) | with_reducible (replace h := bnt h) | with_reducible (replace h := bnf h) | with_reducible (replace h := Int.not_lt.mp h) | with_reducible (replace h := Int.not_le.mp h) | with_reducible (replace h := band_dec h) | with_reducible (replace h := band_decF h) | with_reducible (replace h := bor_dec h) | with_reducible (replace h := bor_decF h)))) <;> (try (exfalso; first | contradiction | omega))) | ((with_reducible (first | apply TD_e2z | apply TD_e3z | apply TL_e | apply TD_e2 | apply TD_e3)); ((with_reducible apply ES_callV (f := 58)); exact rfl; (intro w hw; exact hrd w (hw.rd rfl hA)); exact rfl); (first | exact rfl | exact ⟨rfl, rfl, rfl⟩); (rintro _ _ ⟨rfl, rfl⟩); (try refine ⟨SUB, ?_⟩)) | fail)
    ((with_reducible apply At_retM Try.results17); (repeat (first | exact ResIs.nil | (apply ResIs.tmp; exact rfl) | (apply ResIs.cell; exact rfl; exact Lds.auto))); intro w' hw)
    exact ⟨rfl, hw.below0 rfl⟩
end
theorem gap_of {cs : List Cl} (h : (checkT cs).kind = 0) : firstP cs.length (fun i => i) (twB cs) = none ∧ (missT cs).length ≤ (pendT cs).length ∧ checkT cs = ⟨0, 0, 0⟩ := by
  unfold checkT at h ⊢
  split at h
  · cases h
  · rename_i h1
    split at h
    · cases h
    · split at h
      · cases h
      · rename_i h2 h3
        refine ⟨h1, ?_, rfl⟩
        rcases Nat.lt_or_ge (pendT cs).length (missT cs).length with e | e
        · have := firstN_no h3 (pendT cs).length e
          simp [gapB] at this
        · exact e
theorem ordL_bd {cs : List Cl} (hok : TkOk cs) : ∀ x ∈ ansL cs cs.length ++ gapL cs (missT cs).length, 0 ≤ x.res ∧ x.res ≤ 1000 := by
  intro x hx
  have hnb := numT_bd hok
  rcases List.mem_append.1 hx with h | h
  · unfold ansL at h
    obtain ⟨i, h1, rfl⟩ := List.mem_map.1 h
    rw [List.mem_filter, List.mem_range] at h1
    exact hok.res i h1.1 (of_decide_eq_true h1.2)
  · unfold gapL at h
    obtain ⟨k, h1, rfl⟩ := List.mem_map.1 h
    rw [List.mem_range] at h1
    have e : (missT cs).getD k 0 = (missT cs)[k] := by simp [h1]
    have hmem : (missT cs)[k] ∈ missT cs := List.getElem_mem _
    have := (missK_mem (cs := cs) (m := numT cs)).1 hmem
    dsimp only
    rw [e]
    omega
section
variable (B0 : Option Addr) (d0 : Nat) (l : List Ev) (w : World) (hl : l.length ≤ 9223372036854775807) (hA : RdEv w B0 l)
include hl hA
set_option maxRecDepth 100000 in
set_option maxHeartbeats 8000000 in
theorem tkOrder_any : Calls Try.prog 18 #[.slice B0 l.length d0] w fun e w' => ∃ A c, e = .returned (.tuple #[.slice A (ordR l).1.length c, .int .i64 (ordR l).2]) ∧ Own Stp.enc 2 39 w' w.heap.size (.slice A (ordR l).1.length c) (ordR l).1 ∧ Below w.heap.size w w' := by
  by_cases h : (callsR [5] l).2.2 = 0
  · have hok := tkOk_of h
    have hrd := fun w h1 => tkRead_ok B0 d0 l w hl h1 h
    unfold ordR
    rw [if_pos h]
    generalize (callsR [5] l).1 = cs at *
    clear h
    have hnb := numT_bd hok
    have hml : (missT cs).length ≤ 1001 := Nat.le_trans (missK_len cs _) (by omega)
    have hck := fun gl A1 PA MA c1 pc mc w h1 h2 h3 h4 hca => tkCheck_any gl A1 PA MA c1 pc mc cs (pendT cs) (missT cs) w h1 h2 hok.few h3 h4 rfl rfl (by omega) hca
    have hgap := gap_of (cs := cs)
    obtain ⟨V, hV⟩ : ∃ V, V = checkT cs := ⟨_, rfl⟩
    rw [← hV] at hck hgap ⊢
    clear hV
    obtain ⟨vk, va, vb⟩ := V
    rw [show Bd.enc ⟨vk, va, vb⟩ = [.int .i64 vk, .int .i64 va, .int .i64 vb] from rfl] at *
    dsimp only at hgap ⊢
    refine calls_T (S := []) [] Try.func18 rfl Try.ntmps18 (by simp) (Mem.nil _) ?_
    repeat' (first | ((first | with_reducible (first | apply TL_q | apply TD_q0 | apply TD_q1 | apply TD_q2 | apply TD_q3) | ((with_reducible (first | apply TD_q0y | apply TD_q1y)); exact rfl; exact rfl; (with_reducible exact rfl))); (first | ((with_reducible apply QS_fieldV); exact rfl; exact fun w => bad_kind _ _ _ w) | exact QS.auto); exact rfl) | (refine GO ?_) | (refine GOE ?_; (first | (rintro _ _ ⟨rfl, rfl⟩) | (rintro _ _ ⟨g, rfl, rfl⟩) | (rintro _ _ ⟨A', c', rfl, rfl⟩))) | ((refine GO2 ?_ ?_) <;> intro h <;> (try (repeat (first | with_reducible (replace h := of_decide_eq_true h) | with_reducible (replace h := of_decide_eq_false h) | with_reducible (replace h := bnt h) | with_reducible (replace h := bnf h) | with_reducible (replace h := Int.not_lt.mp h) | with_reducible (replace h := Int.not_le.mp h) | with_reducible (replace h := band_dec h) | with_reducible (replace h := band_decF h) | with_reducible (replace h := bor_dec h) | with_reducible (replace h := bor_decF h)))) <;> (try (exfalso; first | contradiction | omega))) | ((with_reducible (first | apply TD_e2z | apply TD_e3z | apply TL_e | apply TD_e2 | apply TD_e3)); ((with_reducible apply ES_callNew (f := 58) (v := fun L : LG => .tuple #[.pointer (some ⟨L.g, 0, none⟩), .int .i64 0]) (S1 := fun L : LG => [entBlk L.g 126 #[.slice L.A cs.length L.ca, .slice L.P (pendT cs).length L.cp, .slice L.M (missT cs).length L.cm], entOwn Cl.enc 7 43 L.A L.ca cs, entOwn natEnc 1 3 L.P L.cp (pendT cs), entOwn natEnc 1 3 L.M L.cm (missT cs)])); exact rfl; (intro x; (try dsimp only); repeat (first | exact AppL.nil _ | apply AppL.cons)); (intro w hw; exact hrd w (hw.rd rfl hA)); exact rfl); (first | exact rfl | exact ⟨rfl, rfl, rfl⟩); (rintro _ _ ⟨⟨gl, A1, c1, PA, pc, MA, mc⟩, rfl, rfl⟩); (try refine ⟨SUB, ?_⟩)) | fail)
    dsimp only
    refine TL_fact (p := cs.length ≤ c1 ∧ (A1 = none → c1 = 0)) (fun w hw => hw.ownFacts (enc := Cl.enc) (M := 7) (et := 43) (by first | ((repeat (first | with_reducible exact List.mem_cons_self | with_reducible apply List.mem_cons_of_mem)); done) | (repeat (first | exact List.Mem.head _ | apply List.Mem.tail)))) fun hf0 => ?_
    have hca := hf0.1
    repeat' (first | ((first | with_reducible (first | apply TL_q | apply TD_q0 | apply TD_q1 | apply TD_q2 | apply TD_q3) | ((with_reducible (first | apply TD_q0y | apply TD_q1y)); exact rfl; exact rfl; (with_reducible exact rfl))); (first | ((with_reducible apply QS_fieldV); exact rfl; exact fun w => bad_kind _ _ _ w) | exact QS.auto); exact rfl) | (refine GG ?_) | (refine GE ?_; (first | (rintro _ _ ⟨rfl, rfl⟩) | (rintro _ _ ⟨g, rfl, rfl⟩) | (rintro _ _ ⟨A', c', rfl, rfl⟩)); (try refine ⟨SUB, ?_⟩)) | ((refine GO2 ?_ ?_) <;> intro h <;> (try (repeat (first | with_reducible (replace h := of_decide_eq_true h) | with_reducible (replace h := of_decide_eq_false h) | with_reducible (replace h := bnt h) | with_reducible (replace h := bnf h) | with_reducible (replace h := Int.not_lt.mp h) | with_reducible (replace h := Int.not_le.mp h) | with_reducible (replace h := band_dec h) | with_reducible (replace h := band_decF h) | with_reducible (replace h := bor_dec h) | with_reducible (replace h := bor_decF h)))) <;> (try (exfalso; first | contradiction | omega))) | (refine GOF ?_ ?_) | ((with_reducible (first | apply TD_e2z | apply TD_e3z | apply TL_e | apply TD_e2 | apply TD_e3)); ((with_reducible apply ES_callV (f := 59)); exact rfl; (intro w hw; exact hck gl A1 PA MA c1 pc mc w (hw.holds _ (by first | ((repeat (first | with_reducible exact List.mem_cons_self | with_reducible apply List.mem_cons_of_mem)); done) | (repeat (first | exact List.Mem.head _ | apply List.Mem.tail)))).1 (hw.ownRd (by first | ((repeat (first | with_reducible exact List.mem_cons_self | with_reducible apply List.mem_cons_of_mem)); done) | (repeat (first | exact List.Mem.head _ | apply List.Mem.tail))) (fun _ => rfl)) (hw.ownRd (by first | ((repeat (first | with_reducible exact List.mem_cons_self | with_reducible apply List.mem_cons_of_mem)); done) | (repeat (first | exact List.Mem.head _ | apply List.Mem.tail))) (fun _ => rfl)) (hw.ownRd (by first | ((repeat (first | with_reducible exact List.mem_cons_self | with_reducible apply List.mem_cons_of_mem)); done) | (repeat (first | exact List.Mem.head _ | apply List.Mem.tail))) (fun _ => rfl)) hca); exact rfl); (first | exact rfl | exact ⟨rfl, rfl, rfl⟩); (rintro _ _ ⟨rfl, rfl⟩); (try refine ⟨SUB, ?_⟩)) | fail)
    · rw [if_neg h]
      (refine At_ret Try.results18 rfl (fun w' hw => ?_))
      exact ⟨none, 0, rfl, Own.nil _ _, hw.below0 rfl⟩
    · rw [if_pos h]
      obtain ⟨hno, hgl, -⟩ := hgap h
      have hfew := hok.few
      have hpl : (pendT cs).length ≤ cs.length := pendK_len cs cs.length
      refine T_loop (X := Nat × Option Addr × Nat) (fun x => [(28, .int .i64 (x.1 : Nat)), (27, .int .i64 cs.length), (26, .slice A1 cs.length c1), (6, .slice x.2.1 (ansL cs x.1).length x.2.2), (4, .pointer (some ⟨gl, 0, none⟩))])
        (fun x => [entOwn Stp.enc 2 39 x.2.1 x.2.2 (ansL cs x.1), entBlk gl 126 #[.slice A1 cs.length c1, .slice PA (pendT cs).length pc, .slice MA (missT cs).length mc], entOwn Cl.enc 7 43 A1 c1 cs, entOwn natEnc 1 3 PA pc (pendT cs), entOwn natEnc 1 3 MA mc (missT cs)]) (fun x => x.1 ≤ cs.length) (fun x => cs.length - x.1) (0, none, 0) (by (try dsimp only); omega) (by (repeat (first | exact SubE.nil _ | refine SubE.cons rfl ?_))) (fun w' hw => by
          show Mem _ w' [entOwn Stp.enc 2 39 none 0 [], entBlk gl 126 #[.slice A1 cs.length c1, .slice PA (pendT cs).length pc, .slice MA (missT cs).length mc], entOwn Cl.enc 7 43 A1 c1 cs, entOwn natEnc 1 3 PA pc (pendT cs), entOwn natEnc 1 3 MA mc (missT cs)]
          exact (hw.nilOwn Stp.enc 2 39).sel (by (repeat (first | exact Sel.nil _ | (apply Sel.cons; (repeat (first | with_reducible exact Pick.here _ _ | with_reducible apply Pick.there))))))) ?_
      rintro ⟨k, A3, c3⟩ hk
      dsimp only at hk ⊢
      have hal := ansL_len cs k
      by_cases hkl : k < cs.length
      · have hsu := ansL_succ cs k
        rw [clK_eq hkl] at hsu
        refine T_own (enc := Cl.enc) (ls := cs) (by first | ((repeat (first | with_reducible exact List.mem_cons_self | with_reducible apply List.mem_cons_of_mem)); done) | (repeat (first | exact List.Mem.head _ | apply List.Mem.tail))) (by omega) ?_
        rintro gC rfl
        generalize ansL cs k = O at *
        by_cases ht : cs[k].to = -1
        · rw [if_pos ht] at hsu
          repeat' (first | ((first | with_reducible (first | apply TL_q | apply TD_q0 | apply TD_q1 | apply TD_q2 | apply TD_q3) | ((with_reducible (first | apply TD_q0y | apply TD_q1y)); exact rfl; exact rfl; (with_reducible exact rfl))); (first | ((with_reducible apply QS_fieldV); exact rfl; exact fun w => bad_kind _ _ _ w) | exact QS.auto); exact rfl) | (refine GO ?_) | (refine GOE ?_; (first | (rintro _ _ ⟨rfl, rfl⟩) | (rintro _ _ ⟨g, rfl, rfl⟩) | (rintro _ _ ⟨A', c', rfl, rfl⟩))) | ((refine GO2 ?_ ?_) <;> intro h <;> (try (repeat (first | with_reducible (replace h := of_decide_eq_true h) | with_reducible (replace h := of_decide_eq_false h) | with_reducible (replace h := bnt h) | with_reducible (replace h := bnf h) | with_reducible (replace h := Int.not_lt.mp h) | with_reducible (replace h := Int.not_le.mp h) | with_reducible (replace h := band_dec h) | with_reducible (replace h := band_decF h) | with_reducible (replace h := bor_dec h) | with_reducible (replace h := bor_decF h)))) <;> (try (exfalso; first | contradiction | omega))) | fail)
          apply At_rounds (k + 1, A3, c3)
          case hE => dsimp only; rw [hsu]; (repeat (first | exact SubE.nil _ | refine SubE.cons rfl ?_))
          case hS => dsimp only; rw [hsu]; exact fun w' hw => hw.sel (by (repeat (first | exact Sel.nil _ | (apply Sel.cons; (repeat (first | with_reducible exact Pick.here _ _ | with_reducible apply Pick.there))))))
          case hμ => (try dsimp only); omega
          case hp => (try dsimp only); omega
        · rw [if_neg ht] at hsu
          repeat' (first | ((first | with_reducible (first | apply TL_q | apply TD_q0 | apply TD_q1 | apply TD_q2 | apply TD_q3) | ((with_reducible (first | apply TD_q0y | apply TD_q1y)); exact rfl; exact rfl; (with_reducible exact rfl))); (first | ((with_reducible apply QS_fieldV); exact rfl; exact fun w => bad_kind _ _ _ w) | exact QS.auto); exact rfl) | (refine GO ?_) | (refine GOE ?_; (first | (rintro _ _ ⟨rfl, rfl⟩) | (rintro _ _ ⟨g, rfl, rfl⟩) | (rintro _ _ ⟨A', c', rfl, rfl⟩))) | ((refine GO2 ?_ ?_) <;> intro h <;> (try (repeat (first | with_reducible (replace h := of_decide_eq_true h) | with_reducible (replace h := of_decide_eq_false h) | with_reducible (replace h := bnt h) | with_reducible (replace h := bnf h) | with_reducible (replace h := Int.not_lt.mp h) | with_reducible (replace h := Int.not_le.mp h) | with_reducible (replace h := band_dec h) | with_reducible (replace h := band_decF h) | with_reducible (replace h := bor_dec h) | with_reducible (replace h := bor_decF h)))) <;> (try (exfalso; first | contradiction | omega))) | ((with_reducible (first | apply TD_e2z | apply TD_e3z | apply TL_e | apply TD_e2 | apply TD_e3)); ((with_reducible apply ES_append1 (enc := Stp.enc) (xx := ⟨(k : Int), cs[k].res⟩)); exact rfl; exact rfl; (repeat (first | with_reducible exact List.mem_cons_self | with_reducible apply List.mem_cons_of_mem)); exact rfl; exact fun _ => rfl; exact fun _ => rfl; (intro A' c'; first | ((repeat (first | with_reducible exact Upd.here _ _ _ | with_reducible apply Upd.there)); done) | (repeat (first | exact Upd.here _ _ _ | apply Upd.there))); (omega); decide; exact rfl); (first | exact rfl | exact ⟨rfl, rfl, rfl⟩); (rintro _ _ ⟨A', c', rfl, rfl⟩); (try refine ⟨SUB, ?_⟩)) | fail)
          apply At_rounds (k + 1, A', c')
          case hE => dsimp only; rw [hsu]; (repeat (first | exact SubE.nil _ | refine SubE.cons rfl ?_))
          case hS => dsimp only; rw [hsu]; exact fun w' hw => hw.sel (by (repeat (first | exact Sel.nil _ | (apply Sel.cons; (repeat (first | with_reducible exact Pick.here _ _ | with_reducible apply Pick.there))))))
          case hμ => (try dsimp only); omega
          case hp => (try dsimp only); omega
      · obtain rfl : k = cs.length := by omega
        repeat' (first | ((first | with_reducible (first | apply TL_q | apply TD_q0 | apply TD_q1 | apply TD_q2 | apply TD_q3) | ((with_reducible (first | apply TD_q0y | apply TD_q1y)); exact rfl; exact rfl; (with_reducible exact rfl))); (first | ((with_reducible apply QS_fieldV); exact rfl; exact fun w => bad_kind _ _ _ w) | exact QS.auto); exact rfl) | (refine GO ?_) | (refine GOE ?_; (first | (rintro _ _ ⟨rfl, rfl⟩) | (rintro _ _ ⟨g, rfl, rfl⟩) | (rintro _ _ ⟨A', c', rfl, rfl⟩))) | ((refine GO2 ?_ ?_) <;> intro h <;> (try (repeat (first | with_reducible (replace h := of_decide_eq_true h) | with_reducible (replace h := of_decide_eq_false h) | with_reducible (replace h := bnt h) | with_reducible (replace h := bnf h) | with_reducible (replace h := Int.not_lt.mp h) | with_reducible (replace h := Int.not_le.mp h) | with_reducible (replace h := band_dec h) | with_reducible (replace h := band_decF h) | with_reducible (replace h := bor_dec h) | with_reducible (replace h := bor_decF h)))) <;> (try (exfalso; first | contradiction | omega))) | fail)
        refine T_loop (X := Nat × Option Addr × Nat) (fun x => [(49, .int .i64 (x.1 : Nat)), (48, .int .i64 (missT cs).length), (47, .slice MA (missT cs).length mc), (6, .slice x.2.1 (ansL cs cs.length ++ gapL cs x.1).length x.2.2), (4, .pointer (some ⟨gl, 0, none⟩))])
          (fun x => [entOwn Stp.enc 2 39 x.2.1 x.2.2 (ansL cs cs.length ++ gapL cs x.1), entBlk gl 126 #[.slice A1 cs.length c1, .slice PA (pendT cs).length pc, .slice MA (missT cs).length mc], entOwn Cl.enc 7 43 A1 c1 cs, entOwn natEnc 1 3 PA pc (pendT cs), entOwn natEnc 1 3 MA mc (missT cs)]) (fun x => x.1 ≤ (missT cs).length) (fun x => (missT cs).length - x.1) (0, A3, c3) (by (try dsimp only); omega) (by
            have e0 : ansL cs cs.length ++ gapL cs 0 = ansL cs cs.length := List.append_nil _
            dsimp only
            rw [e0]
            (repeat (first | exact SubE.nil _ | refine SubE.cons rfl ?_))) (fun w' hw => by
            show Mem _ w' [entOwn Stp.enc 2 39 A3 c3 (ansL cs cs.length ++ []), entBlk gl 126 #[.slice A1 cs.length c1, .slice PA (pendT cs).length pc, .slice MA (missT cs).length mc], entOwn Cl.enc 7 43 A1 c1 cs, entOwn natEnc 1 3 PA pc (pendT cs), entOwn natEnc 1 3 MA mc (missT cs)]
            rw [List.append_nil]
            exact hw.sel (by (repeat (first | exact Sel.nil _ | (apply Sel.cons; (repeat (first | with_reducible exact Pick.here _ _ | with_reducible apply Pick.there))))))) ?_
        rintro ⟨j, A4, c4⟩ hj
        dsimp only at hj ⊢
        have hgj := gapL_len cs j
        have hlen : (ansL cs cs.length ++ gapL cs j).length = (ansL cs cs.length).length + j := by rw [List.length_append, hgj]
        by_cases hjl : j < (missT cs).length
        · have hsu : ansL cs cs.length ++ gapL cs (j + 1) = (ansL cs cs.length ++ gapL cs j) ++ [⟨((pendT cs).getD j 0 : Nat), ((missT cs).getD j 0 : Nat)⟩] := by rw [gapL_succ, List.append_assoc]
          have hmj : (missT cs).getD j 0 = (missT cs)[j] := by simp [hjl]
          have hpj : (pendT cs).getD j 0 = (pendT cs)[j] := by simp [show j < (pendT cs).length by omega]
          rw [hmj, hpj] at hsu
          refine T_own (enc := natEnc) (ls := missT cs) (by first | ((repeat (first | with_reducible exact List.mem_cons_self | with_reducible apply List.mem_cons_of_mem)); done) | (repeat (first | exact List.Mem.head _ | apply List.Mem.tail))) (by omega) ?_
          rintro gM rfl
          refine T_own (enc := natEnc) (ls := pendT cs) (by first | ((repeat (first | with_reducible exact List.mem_cons_self | with_reducible apply List.mem_cons_of_mem)); done) | (repeat (first | exact List.Mem.head _ | apply List.Mem.tail))) (by omega) ?_
          rintro gP rfl
          generalize ansL cs cs.length ++ gapL cs j = O at *
          repeat' (first | ((first | with_reducible (first | apply TL_q | apply TD_q0 | apply TD_q1 | apply TD_q2 | apply TD_q3) | ((with_reducible (first | apply TD_q0y | apply TD_q1y)); exact rfl; exact rfl; (with_reducible exact rfl))); (first | ((with_reducible apply QS_fieldV); exact rfl; exact fun w => bad_kind _ _ _ w) | exact QS.auto); exact rfl) | (refine GO ?_) | (refine GOE ?_; (first | (rintro _ _ ⟨rfl, rfl⟩) | (rintro _ _ ⟨g, rfl, rfl⟩) | (rintro _ _ ⟨A', c', rfl, rfl⟩))) | ((refine GO2 ?_ ?_) <;> intro h <;> (try (repeat (first | with_reducible (replace h := of_decide_eq_true h) | with_reducible (replace h := of_decide_eq_false h) | with_reducible (replace h := bnt h) | with_reducible (replace h := bnf h) | with_reducible (replace h := Int.not_lt.mp h) | with_reducible (replace h := Int.not_le.mp h) | with_reducible (replace h := band_dec h) | with_reducible (replace h := band_decF h) | with_reducible (replace h := bor_dec h) | with_reducible (replace h := bor_decF h)))) <;> (try (exfalso; first | contradiction | omega))) | ((with_reducible (first | apply TD_e2z | apply TD_e3z | apply TL_e | apply TD_e2 | apply TD_e3)); ((with_reducible apply ES_append1 (enc := Stp.enc) (xx := ⟨((pendT cs)[j] : Nat), ((missT cs)[j] : Nat)⟩)); exact rfl; exact rfl; (repeat (first | with_reducible exact List.mem_cons_self | with_reducible apply List.mem_cons_of_mem)); exact rfl; exact fun _ => rfl; exact fun _ => rfl; (intro A' c'; first | ((repeat (first | with_reducible exact Upd.here _ _ _ | with_reducible apply Upd.there)); done) | (repeat (first | exact Upd.here _ _ _ | apply Upd.there))); (omega); decide; exact rfl); (first | exact rfl | exact ⟨rfl, rfl, rfl⟩); (rintro _ _ ⟨A', c', rfl, rfl⟩); (try refine ⟨SUB, ?_⟩)) | fail)
          apply At_rounds (j + 1, A', c')
          case hE => dsimp only; rw [hsu]; (repeat (first | exact SubE.nil _ | refine SubE.cons rfl ?_))
          case hS => dsimp only; rw [hsu]; exact fun w' hw => hw.sel (by (repeat (first | exact Sel.nil _ | (apply Sel.cons; (repeat (first | with_reducible exact Pick.here _ _ | with_reducible apply Pick.there))))))
          case hμ => (try dsimp only); omega
          case hp => (try dsimp only); omega
        · obtain rfl : j = (missT cs).length := by omega
          have hbd := ordL_bd hok
          have hso := fun (x : SortTo (fun x y : Stp => x.res - y.res) (ansL cs cs.length ++ gapL cs (missT cs).length)) => tk_sorted hok hno hgl x.2.1 (x.2.2.imp fun h => by dsimp only at h; omega)
          have hsl := fun (x : SortTo (fun x y : Stp => x.res - y.res) (ansL cs cs.length ++ gapL cs (missT cs).length)) => x.2.1.length_eq
          generalize ansL cs cs.length ++ gapL cs (missT cs).length = O at *
          repeat' (first | ((first | with_reducible (first | apply TL_q | apply TD_q0 | apply TD_q1 | apply TD_q2 | apply TD_q3) | ((with_reducible (first | apply TD_q0y | apply TD_q1y)); exact rfl; exact rfl; (with_reducible exact rfl))); (first | ((with_reducible apply QS_fieldV); exact rfl; exact fun w => bad_kind _ _ _ w) | exact QS.auto); exact rfl) | (refine GO ?_) | (refine GOE ?_; (first | (rintro _ _ ⟨rfl, rfl⟩) | (rintro _ _ ⟨g, rfl, rfl⟩) | (rintro _ _ ⟨A', c', rfl, rfl⟩))) | ((refine GO2 ?_ ?_) <;> intro h <;> (try (repeat (first | with_reducible (replace h := of_decide_eq_true h) | with_reducible (replace h := of_decide_eq_false h) | with_reducible (replace h := bnt h) | with_reducible (replace h := bnf h) | with_reducible (replace h := Int.not_lt.mp h) | with_reducible (replace h := Int.not_le.mp h) | with_reducible (replace h := band_dec h) | with_reducible (replace h := band_decF h) | with_reducible (replace h := bor_dec h) | with_reducible (replace h := bor_decF h)))) <;> (try (exfalso; first | contradiction | omega))) | ((with_reducible (first | apply TD_e2z | apply TD_e3z | apply TL_e | apply TD_e2 | apply TD_e3)); ((with_reducible apply ES_callX (f := 60) (X := SortTo (fun x y : Stp => x.res - y.res) O) (S1 := [entOwn Stp.enc 2 39 A4 c4 O]) (fun _ => .tuple #[]) (fun x => [entOwn Stp.enc 2 39 A4 c4 x.1])); exact rfl; ((repeat (first | exact Pull.nil _ | (apply Pull.cons; (repeat (first | with_reducible exact Pick.here _ _ | with_reducible apply Pick.there)))))); (intro x; (try dsimp only); repeat (first | exact AppL.nil _ | apply AppL.cons)); (intro w hw; exact order_sort A4 c4 O w hbd (hw.holds _ (by first | ((repeat (first | with_reducible exact List.mem_cons_self | with_reducible apply List.mem_cons_of_mem)); done) | (repeat (first | exact List.Mem.head _ | apply List.Mem.tail)))).1 (by omega)); exact rfl); (first | exact rfl | exact ⟨rfl, rfl, rfl⟩); (rintro _ _ ⟨x, rfl, rfl⟩); (try refine ⟨SUB, ?_⟩)) | fail)
          (refine At_ret Try.results18 rfl (fun w' hw => ?_))
          rw [← hso x]
          exact ⟨A4, c4, by rw [hsl x]; rfl, hw.ownOut rfl (by first | ((repeat (first | with_reducible exact List.mem_cons_self | with_reducible apply List.mem_cons_of_mem)); done) | (repeat (first | exact List.Mem.head _ | apply List.Mem.tail))), hw.below0 rfl⟩
  · have hrd := fun w h1 => tkRead_err B0 d0 l w hl h1 h
    unfold ordR
    rw [if_neg h]
    generalize (callsR [5] l).2.2 = er at *
    refine calls_T (S := []) [] Try.func18 rfl Try.ntmps18 (by simp) (Mem.nil _) ?_
    repeat' (first | ((first | with_reducible (first | apply TL_q | apply TD_q0 | apply TD_q1 | apply TD_q2 | apply TD_q3) | ((with_reducible (first | apply TD_q0y | apply TD_q1y)); exact rfl; exact rfl; (with_reducible exact rfl))); (first | ((with_reducible apply QS_fieldV); exact rfl; exact fun w => bad_kind _ _ _ w) | exact QS.auto); exact rfl) | (refine GO ?_) | (refine GOE ?_; (first | (rintro _ _ ⟨rfl, rfl⟩) | (rintro _ _ ⟨g, rfl, rfl⟩) | (rintro _ _ ⟨A', c', rfl, rfl⟩))) | ((refine GO2 ?_ ?_) <;> intro h <;> (try (repeat (first | with_reducible (replace h := of_decide_eq_true h) | with_reducible (replace h := of_decide_eq_false h) | with_reducible (replace h := bnt h) | with_reducible (replace h := bnf h) | with_reducible (replace h := Int.not_lt.mp h) | with_reducible (replace h := Int.not_le.mp h) | with_reducible (replace h := band_dec h) | with_reducible (replace h := band_decF h) | with_reducible (replace h := bor_dec h) | with_reducible (replace h := bor_decF h)))) <;> (try (exfalso; first | contradiction | omega))) | ((with_reducible (first | apply TD_e2z | apply TD_e3z | apply TL_e | apply TD_e2 | apply TD_e3)); ((with_reducible apply ES_callV (f := 58)); exact rfl; (intro w hw; exact hrd w (hw.rd rfl hA)); exact rfl); (first | exact rfl | exact ⟨rfl, rfl, rfl⟩); (rintro _ _ ⟨rfl, rfl⟩); (try refine ⟨SUB, ?_⟩)) | fail)
    (refine At_ret Try.results18 rfl (fun w' hw => ?_))
    exact ⟨none, 0, rfl, Own.nil _ _, hw.below0 rfl⟩
end
end Go.Proofs.Ytbhjljnbjomnhaa

namespace Go.Proofs.Ytbhjljnbjomnhaa
open Go.RowKit

def bdL (a b c : Int) : Value := .agg #[.int .i64 a, .int .i64 b, .int .i64 c]
set_option maxRecDepth 40000 in
theorem run_neq_bd (a b c a' b' c' : Int) (w : World) : (binOp .neq 48 (.agg #[.int .i64 a, .int .i64 b, .int .i64 c]) (.agg #[.int .i64 a', .int .i64 b', .int .i64 c'])).run Try.prog w = .ok (.bool (!(decide (a = a') && (decide (b = b') && decide (c = c'))))) w := by
  rw [run_neq_struct]
  go_simp
  repeat' split
  all_goals simp_all
set_option maxRecDepth 40000 in
theorem run_eql_bd (a b c a' b' c' : Int) (w : World) : (binOp .eql 48 (.agg #[.int .i64 a, .int .i64 b, .int .i64 c]) (.agg #[.int .i64 a', .int .i64 b', .int .i64 c'])).run Try.prog w = .ok (.bool (decide (a = a') && (decide (b = b') && decide (c = c')))) w := by
  rw [run_eql_struct]
  go_simp
  repeat' split
  all_goals simp_all
theorem run_eqGuard_bd (op : BinOp) (x y : Operand) (xs ys : Array Value) (w : World) : (eqGuard op 48 x y (.agg xs) (.agg ys)).run Try.prog w = .ok () w :=
  run_eqGuard_agg w op _ x y xs ys Try.eqGuardType48
section
variable {C : Ctx} {E : Slots} {S : List Ent} {ty ty3 : Nat} {x y : Operand} {a b c a' b' c' : Int}
theorem QS_neqBd (hx : evo E x = some (.agg #[.int .i64 a, .int .i64 b, .int .i64 c])) (hy : evo E y = some (.agg #[.int .i64 a', .int .i64 b', .int .i64 c'])) : QS Try.prog C E S (.binOp .neq 48 x y ty3) ty (.bool (!(decide (a = a') && (decide (b = b') && decide (c = c'))))) :=
  QS.of (fun f w ha _ => by
    have h2 := run_neq_bd a b c a' b' c' w
    have hg := run_eqGuard_bd .neq x y #[.int .i64 a, .int .i64 b, .int .i64 c] #[.int .i64 a', .int .i64 b', .int .i64 c'] w
    simp only [execOp, ha.evo hx, ha.evo hy, Sem.run_bind, hg, Result.andThen_ok, h2]
    simp)
theorem QS_eqlBd (hx : evo E x = some (.agg #[.int .i64 a, .int .i64 b, .int .i64 c])) (hy : evo E y = some (.agg #[.int .i64 a', .int .i64 b', .int .i64 c'])) : QS Try.prog C E S (.binOp .eql 48 x y ty3) ty (.bool (decide (a = a') && (decide (b = b') && decide (c = c')))) :=
  QS.of (fun f w ha _ => by
    have h2 := run_eql_bd a b c a' b' c' w
    have hg := run_eqGuard_bd .eql x y #[.int .i64 a, .int .i64 b, .int .i64 c] #[.int .i64 a', .int .i64 b', .int .i64 c'] w
    simp only [execOp, ha.evo hx, ha.evo hy, Sem.run_bind, hg, Result.andThen_ok, h2]
    rfl)
end
end Go.Proofs.Ytbhjljnbjomnhaa
