/- Lemmas for the walks (M, F, E, Hist4c). No condition. -/
import Derived.Test.YtaonijdhmgcbjaaG04
import Derived.Test.YtaonijdhmgcbjaaG02
set_option linter.unusedSimpArgs false
set_option linter.unusedVariables false
set_option linter.unusedSectionVars false
set_option linter.unnecessarySimpa false
namespace Go.Proofs.Ytaonijdhmgcbjaa
open Go.RowKit

def intV (n : Int) : Value := .int .i64 n
def boolV (b : Bool) : Value := .bool b
def rowOfMap {α : Type} (enc : α → Value) (D : List (Int × α)) : List (Value × Value) := D.map fun p => (.int .i64 p.1, enc p.2)
/-- each entry has a stamp of its own, ahead of the clock -/
def BornOk (es : Array MapEntry) (cl : Nat) : Prop := (es.toList.map (·.born)).Nodup ∧ ∀ x ∈ es.toList, x.born < cl
def MapI {α : Type} (enc : α → Value) (w : World) (g : Nat) (D : List (Int × α)) : Prop :=
  ∃ es clock, w.heap[g]? = some (.map es clock) ∧ es.toList.map (fun e => (e.key, e.val)) = rowOfMap enc D ∧ BornOk es clock
theorem born_push {es : Array MapEntry} {cl : Nat} (h : BornOk es cl) (k v : Value) : BornOk (es.push { key := k, val := v, born := cl }) (cl + 1) := by
  refine ⟨?_, fun x hx => ?_⟩
  · rw [Array.toList_push, List.map_append, List.nodup_append]
    refine ⟨h.1, by simp, fun a ha b hb => ?_⟩
    obtain ⟨x, hx, rfl⟩ := List.mem_map.1 ha
    have := h.2 x hx
    simp at hb
    omega
  · rw [Array.toList_push] at hx
    rcases List.mem_append.1 hx with h1 | h1
    · have := h.2 x h1; omega
    · simp at h1; subst h1; exact Nat.lt_succ_self _
theorem born_modify {es : Array MapEntry} {cl : Nat} (h : BornOk es cl) (i : Nat) (f : MapEntry → MapEntry) (hf : ∀ x, (f x).born = x.born) : BornOk (es.modify i f) cl := by
  have e : (es.modify i f).toList.map (·.born) = es.toList.map (·.born) := by
    apply List.ext_getElem?
    intro j
    simp only [Array.toList_modify, List.getElem?_map, List.getElem?_modify]
    by_cases e : i = j
    · subst e; cases es.toList[i]? <;> simp [hf]
    · simp [if_neg e]
  refine ⟨by rw [e]; exact h.1, fun x hx => ?_⟩
  have h1 : x.born ∈ (es.modify i f).toList.map (·.born) := List.mem_map.2 ⟨x, hx, rfl⟩
  rw [e] at h1
  obtain ⟨y, hy, e2⟩ := List.mem_map.1 h1
  rw [← e2]
  exact h.2 y hy
def entMap {α : Type} (enc : α → Value) (g : Nat) (D : List (Int × α)) : Ent :=
  ⟨fun k => some g = some k, [g], fun k => by simp [eq_comm], fun w => MapI enc w g D, fun _ _ h hp => by
    obtain ⟨es, c, h1, h2⟩ := hp
    exact ⟨es, c, (h g rfl).trans h1, h2⟩⟩
/-- what a map holds behind m[k] = v -/
def putM {α : Type} : List (Int × α) → Int → α → List (Int × α)
  | [], k, v => [(k, v)]
  | p :: D, k, v => if k = p.1 then (k, v) :: D else p :: putM D k v
def lookM {α : Type} : List (Int × α) → Int → Option α
  | [], _ => none
  | p :: D, k => if k = p.1 then some p.2 else lookM D k
theorem lookM_put {α : Type} (k : Int) (v : α) (x : Int) : ∀ D : List (Int × α), lookM (putM D k v) x = if x = k then some v else lookM D x
  | [] => by simp [putM, lookM]
  | p :: D => by
    unfold putM
    split
    · rename_i h
      subst h
      simp only [lookM]
      split <;> rfl
    · rename_i h
      simp only [lookM, lookM_put k v x D]
      by_cases e : x = p.1
      · subst e; rw [if_pos rfl, if_neg (fun e => h e.symm), if_pos rfl]
      · rw [if_neg e, if_neg e]
def findD {α : Type} : List (Int × α) → Int → Nat → Option (Nat × α)
  | [], _, _ => none
  | p :: D, k, i => if k = p.1 then some (i, p.2) else findD D k (i + 1)
theorem findD_look {α : Type} (k : Int) : ∀ (D : List (Int × α)) (i : Nat), (findD D k i).map (·.2) = lookM D k
  | [], _ => rfl
  | p :: D, i => by simp only [findD, lookM]; split <;> simp [findD_look k D]
theorem findD_put {α : Type} (k : Int) (v : α) : ∀ (D : List (Int × α)) (i : Nat), match findD D k i with
    | some (j, _) => i ≤ j ∧ (∃ u, D[j - i]? = some (k, u)) ∧ putM D k v = D.modify (j - i) (fun _ => (k, v))
    | none => putM D k v = D ++ [(k, v)]
  | [], _ => rfl
  | p :: D, i => by
    simp only [findD]
    by_cases h : k = p.1
    · rw [if_pos h]
      refine ⟨Nat.le_refl _, ⟨p.2, by simp [h]⟩, by simp [putM, h]⟩
    · rw [if_neg h]
      have ih := findD_put k v D (i + 1)
      cases hf : findD D k (i + 1) with
      | none => rw [hf] at ih; simp only at ih ⊢; simp [putM, h, ih]
      | some q =>
        rw [hf] at ih
        obtain ⟨j, u⟩ := q
        simp only at ih ⊢
        obtain ⟨h1, ⟨u', h2⟩, h3⟩ := ih
        have e : j - i = (j - (i + 1)) + 1 := by omega
        refine ⟨by omega, ⟨u', by rw [e]; simpa using h2⟩, ?_⟩
        rw [e, List.modify_succ_cons, ← h3]
        simp [putM, h]
theorem findNow_int {α : Type} (enc : α → Value) (x : Int) : ∀ (es : List MapEntry) (D : List (Int × α)) (i : Nat), es.map (fun e => (e.key, e.val)) = rowOfMap enc D →
    Instr.findNow (.int .i64) (.int .i64 x) es i = some ((findD D x i).map fun p => (p.1, enc p.2))
  | [], [], _, _ => rfl
  | [], p :: D, _, h => by simp [rowOfMap] at h
  | e :: es, [], _, h => by simp [rowOfMap] at h
  | e :: es, p :: D, i, h => by
    simp only [rowOfMap, List.map_cons, List.cons.injEq, Prod.mk.injEq] at h
    obtain ⟨⟨h1, h2⟩, h3⟩ := h
    have ih := findNow_int enc x es D (i + 1) h3
    simp only [Instr.findNow, h1, Instr.sameNow, if_true, findD]
    by_cases hx : x = p.1
    · subst hx; simp [h2]
    · have : (x == p.1) = false := by simpa using hx
      rw [this, if_neg hx]
      exact ih
section
variable {P : Program} {C : Ctx} {Q : Exit → Act → World → Prop} {E : Slots} {S S' : List Ent}
variable {d ty ty2 ty3 : Nat} {ps : String} {af : Array Edge} {g0 : Option (Nat × Bool)} {x y m : Operand} {t k e g : Nat} {n : Int}
theorem run_checkKey [hm : MapOf P t k e] (b : Bool) (w : World) : (Instr.checkKey b 10000 k (.int .i64 n)).run P w = .ok () w := by
  unfold Instr.checkKey
  simp [run_underlying hm.key]
theorem run_findKey [hm : MapOf P t k e] {α : Type} (enc : α → Value) (es : List MapEntry) (D : List (Int × α)) (h : es.map (fun e => (e.key, e.val)) = rowOfMap enc D) (w : World) :
    (Instr.findKey k (.int .i64 n) es).run P w = .ok ((findD D n 0).map fun p => (p.1, enc p.2)) w := by
  unfold Instr.findKey
  simp [run_underlying hm.key, findNow_int enc n es D 0 h]
theorem run_lookup [hm : MapOf P t k e] {z : Value} [hz : ZeroOf P e z] {α : Type} {enc : α → Value} {z0 : α} (he : enc z0 = z) {D : List (Int × α)} {w : World} (hD : MapI enc w g D) (ok : Bool) :
    (Instr.lookup t (.map (some g)) (.int .i64 n) ok).run P w = .ok (if ok then .tuple #[enc ((lookM D n).getD z0), .bool (lookM D n).isSome] else enc ((lookM D n).getD z0)) w := by
  obtain ⟨es, cl, hg, hes, hbo⟩ := hD
  have hgo : (getObj g).run P w = .ok (.map es cl) w := by simp [getObj, Sem.run, hg]
  have h1 := run_checkKey (hm := hm) (n := n) es.isEmpty w
  have h2 := run_findKey (hm := hm) (n := n) enc es.toList D hes w
  have h3 := findD_look n D 0
  unfold Instr.lookup
  simp only [run_underlying hm.und, Sem.run_bind, Result.andThen_ok, hgo, Sem.run_pure, h1, h2]
  cases hf : findD D n 0 with
  | none =>
    rw [hf] at h3
    have h3' : lookM D n = none := h3.symm
    simp [hz.run w, h3', he]
  | some p =>
    rw [hf] at h3
    have h3' : lookM D n = some p.2 := h3.symm
    simp [h3']
/-- m[k] = v -/
theorem run_mapUpdate [hm : MapOf P t k e] {α : Type} {enc : α → Value} {D : List (Int × α)} {w : World} (hD : MapI enc w g D) (v : α) :
    ∃ w', (Instr.mapUpdate t (.map (some g)) (.int .i64 n) (enc v)).run P w = .ok () w' ∧ MapI enc w' g (putM D n v) ∧ Keeps [g] w w' := by
  obtain ⟨es, cl, hg, hes, hbo⟩ := hD
  have hlt : g < w.heap.size := (Array.getElem?_eq_some_iff.1 hg).1
  have hgo : (getObj g).run P w = .ok (.map es cl) w := by simp [getObj, Sem.run, hg]
  have h1 := run_checkKey (hm := hm) (n := n) false w
  have h2 := run_findKey (hm := hm) (n := n) enc es.toList D hes w
  have hput := findD_put n v D 0
  have hset : ∀ o : Obj, (setObj g o).run P w = .ok () { w with heap := w.heap.setIfInBounds g o } := fun o => by simp [setObj, Sem.run, hg]
  have hk : ∀ o : Obj, Keeps [g] w { w with heap := w.heap.setIfInBounds g o } := fun o => ⟨rfl, rfl, rfl, by simp, fun j _ hj => by
    simp only [List.mem_singleton] at hj
    exact Array.getElem?_setIfInBounds_ne (fun e => hj e.symm)⟩
  have hget : ∀ o : Obj, ({ w with heap := w.heap.setIfInBounds g o } : World).heap[g]? = some o := fun o => by simp [hlt]
  unfold Instr.mapUpdate
  simp only [run_underlying hm.und, Sem.run_bind, Result.andThen_ok, hgo, h1, h2]
  cases hf : findD D n 0 with
  | none =>
    rw [hf] at hput
    simp only [Option.map_none, hset]
    refine ⟨_, rfl, ⟨_, _, hget _, ?_, born_push hbo _ _⟩, hk _⟩
    rw [show putM D n v = D ++ [(n, v)] from hput]
    simp [rowOfMap] at hes ⊢
    exact hes
  | some p =>
    obtain ⟨i, u⟩ := p
    rw [hf] at hput
    simp only [Nat.sub_zero] at hput
    obtain ⟨_, ⟨u', hu⟩, hp⟩ := hput
    have hi : i < es.size := by
      have h4 := congrArg List.length hes
      have h5 := (List.getElem?_eq_some_iff.1 hu).1
      simp [rowOfMap] at h4
      omega
    have hkey : es[i].key = .int .i64 n := by
      have h6 : (es.toList.map fun e => (e.key, e.val))[i]? = some (es[i].key, es[i].val) := by simp [hi]
      rw [hes] at h6
      simp only [rowOfMap, List.getElem?_map, hu, Option.map_some, Option.some.injEq, Prod.mk.injEq] at h6
      exact h6.1.symm
    have hst : (Instr.keyThatStays (.int .i64 n) (.int .i64 n)).run P w = .ok (.int .i64 n) w := by
      unfold Instr.keyThatStays
      rw [if_pos (by simp [Instr.sameBits])]
      rfl
    simp only [Option.map_some, Array.getElem?_eq_getElem hi, Option.getD_some, hkey, Sem.run_bind, hst, Result.andThen_ok, hset]
    refine ⟨_, rfl, ⟨_, _, hget _, ?_, born_modify hbo _ _ (fun _ => rfl)⟩, hk _⟩
    rw [hp]
    apply List.ext_getElem?
    intro j
    have hj := congrArg (·[j]?) hes
    simp only [rowOfMap, List.getElem?_map] at hj ⊢
    rw [List.getElem?_modify]
    simp only [Array.toList_modify, List.getElem?_modify]
    by_cases e : i = j
    · subst e
      simp only [if_true, hu, Option.map_some]
      have : es.toList[i]? = some es[i] := by simp [hi]
      rw [this]; rfl
    · simp only [if_neg e]
      cases h7 : es.toList[j]? <;> cases h8 : D[j]? <;> rw [h7, h8] at hj <;> simp_all
theorem ES_makeMap {α : Type} (enc : α → Value) (hd : Nat.ble (d + 1) C.n = true) : ES P C E S ⟨some d, .makeMap t none, ty, ps, af, g0⟩ (fun E' S' => ∃ g, E' = (d, .map (some g)) :: E ∧ S' = entMap enc g [] :: S) := by
  refine (ES_core (fun u S' => ∃ g, u = .map (some g) ∧ S' = entMap enc g [] :: S) (fun a w ha hw => ?_) hd).weak (by rintro _ _ ⟨_, ⟨g, rfl, rfl⟩, rfl⟩; exact ⟨g, rfl, rfl⟩)
  refine ⟨_, _, _, ?_, hw.alloc (.map #[] 0) (e := entMap enc w.heap.size []) (fun _ h => h) ⟨#[], 0, heap_alloc_new w _, rfl, by simp [BornOk]⟩, _, rfl, rfl⟩
  simp [execOp, Instr.makeMap, newObj, Sem.run]
theorem ES_makeMapI [MapOf P t k e] [ZeroOf P e (.int .i64 0)] (hd : Nat.ble (d + 1) C.n = true) : ES P C E S ⟨some d, .makeMap t none, ty, ps, af, g0⟩ (fun E' S' => ∃ g, E' = (d, .map (some g)) :: E ∧ S' = entMap intV g [] :: S) := ES_makeMap intV hd
theorem ES_makeMapB [MapOf P t k e] [ZeroOf P e (.bool false)] (hd : Nat.ble (d + 1) C.n = true) : ES P C E S ⟨some d, .makeMap t none, ty, ps, af, g0⟩ (fun E' S' => ∃ g, E' = (d, .map (some g)) :: E ∧ S' = entMap boolV g [] :: S) := ES_makeMap boolV hd
section
variable [hm : MapOf P t k e] (hx : evo E m = some (.map (some g))) (hy : evo E x = some (.int .i64 n))
include hm hx
theorem QS_lenMap {α : Type} {enc : α → Value} {D : List (Int × α)} (hD : entMap enc g D ∈ S) : QS P C E S (.call ⟨.builtin .len, #[m], #[t]⟩) ty (.int .i64 D.length) := QS.of (fun a w ha hw => by
    obtain ⟨es, cl, hg, hes, _⟩ := (hw.holds _ hD).1
    have hgo : (getObj g).run P w = .ok (.map es cl) w := by simp [getObj, Sem.run, hg]
    have hl : es.size = D.length := by
      have := congrArg List.length hes
      simpa [rowOfMap] using this
    have hr : (Builtin.len_ #[t] ty #[.map (some g)]).run P w = .ok (.int .i64 D.length) w := by
      simp [Builtin.len_, run_underlying hm.und, hgo, hl, goInt]
    simp [execOp, resolve, invoke, builtin, ha.evo hx, hr])
include hy
theorem QS_lookI {D : List (Int × Int)} [hz : ZeroOf P e (.int .i64 0)] (hD : entMap intV g D ∈ S) : QS P C E S (.lookup t m x false) ty (.int .i64 ((lookM D n).getD 0)) :=
  QS.of (fun a w ha hw => by
    have h := run_lookup (hm := hm) (n := n) (enc := intV) (z0 := 0) rfl (hw.holds _ hD).1 false
    simp only [execOp, ha.evo hx, ha.evo hy, Sem.run_bind, h, Result.andThen_ok]; rfl)
theorem QS_lookIok {D : List (Int × Int)} [hz : ZeroOf P e (.int .i64 0)] (hD : entMap intV g D ∈ S) : QS P C E S (.lookup t m x true) ty (.tuple #[.int .i64 ((lookM D n).getD 0), .bool (lookM D n).isSome]) :=
  QS.of (fun a w ha hw => by
    have h := run_lookup (hm := hm) (n := n) (enc := intV) (z0 := 0) rfl (hw.holds _ hD).1 true
    simp only [execOp, ha.evo hx, ha.evo hy, Sem.run_bind, h, Result.andThen_ok]; rfl)
theorem QS_lookB {D : List (Int × Bool)} [hz : ZeroOf P e (.bool false)] (hD : entMap boolV g D ∈ S) : QS P C E S (.lookup t m x false) ty (.bool ((lookM D n).getD false)) :=
  QS.of (fun a w ha hw => by
    have h := run_lookup (hm := hm) (n := n) (enc := boolV) (z0 := false) rfl (hw.holds _ hD).1 false
    simp only [execOp, ha.evo hx, ha.evo hy, Sem.run_bind, h, Result.andThen_ok]; rfl)
theorem QS_lookBok {D : List (Int × Bool)} [hz : ZeroOf P e (.bool false)] (hD : entMap boolV g D ∈ S) : QS P C E S (.lookup t m x true) ty (.tuple #[.bool ((lookM D n).getD false), .bool (lookM D n).isSome]) :=
  QS.of (fun a w ha hw => by
    have h := run_lookup (hm := hm) (n := n) (enc := boolV) (z0 := false) rfl (hw.holds _ hD).1 true
    simp only [execOp, ha.evo hx, ha.evo hy, Sem.run_bind, h, Result.andThen_ok]; rfl)
theorem ES_mapUpdate {α : Type} {enc : α → Value} {D : List (Int × α)} {v : α} (hu : Upd S (entMap enc g D) (entMap enc g (putM D n v)) S') (hv : evo E y = some (enc v)) : ES P C E S ⟨none, .mapUpdate t m x y, ty, ps, af, g0⟩ (fun E' T => E' = E ∧ T = S') := by
  refine (ES_skip (fun T => T = S') (fun a w ha hw => ?_)).weak (by rintro _ _ ⟨rfl, rfl⟩; exact ⟨rfl, rfl⟩)
  obtain ⟨w', hr, hD', hk⟩ := run_mapUpdate (hm := hm) (n := n) (hw.holds _ hu.mem).1 v
  refine ⟨w', S', by simp [execOp, ha.evo hx, ha.evo hy, ha.evo hv, hr], ?_, rfl⟩
  refine hw.upd hu hk (by simp [entMap]) (fun k hk' => ?_) hD'
  have : some g = some k := hk'
  cases this
  obtain ⟨es, cl, hg, _⟩ := hD'
  exact ⟨(Array.getElem?_eq_some_iff.1 hg).1, .inl rfl⟩
end
end
end Go.Proofs.Ytaonijdhmgcbjaa

namespace Go.Proofs.Ytaonijdhmgcbjaa
open Go.RowKit

def blks : List Ent → List Nat
  | [] => []
  | e :: S => e.fin ++ blks S
theorem mem_blks {g : Nat} : ∀ {S : List Ent}, g ∈ blks S ↔ ∃ e ∈ S, e.has g
  | [] => by simp [blks]
  | e :: S => by
    have ih := mem_blks (g := g) (S := S)
    rw [blks, List.mem_append, ih, e.hfin]
    simp
section
variable {C : Ctx} {w w' : World} {S S1 S1' R : List Ent}
theorem Mem.anyN (h : Mem C w S) (n : Nat) : Mem ⟨n, C.F, C.w0⟩ w S := ⟨h.keeps, h.holds, h.apart⟩
/-- the part that a callee is handed -/
theorem Mem.self (n : Nat) (hw : Mem C w (S1 ++ R)) : Mem ⟨n, blks S1, w⟩ w S1 :=
  ⟨Keeps.refl _ _, fun e he => ⟨(hw.holds e (by simp [he])).1, fun g hg => ⟨((hw.holds e (by simp [he])).2 g hg).1, .inl (mem_blks.2 ⟨e, he, hg⟩)⟩⟩, (List.pairwise_append.1 hw.apart).1⟩
/-- what was there ahead of the call is none of its own blocks -/
theorem Mem.newBlk {b : Nat} (hw : Mem C w (S1 ++ R)) (hF : C.F = []) (hb : b < C.w0.heap.size) : b ∉ blks S1 := fun hm => by
  obtain ⟨e, he, hg⟩ := mem_blks.1 hm
  have := ((hw.holds e (by simp [he])).2 b hg).2
  rw [hF] at this
  rcases this with h | h
  · cases h
  · omega
/-- behind it the rest is as it was -/
theorem Mem.frame {n : Nat} (hw : Mem C w (S1 ++ R)) (ht : Mem ⟨n, blks S1, w⟩ w' S1') : Mem C w' (S1' ++ R) := by
  have hap := List.pairwise_append.1 hw.apart
  have hF : ∀ g ∈ blks S1, g < w.heap.size ∧ (g ∈ C.F ∨ C.w0.heap.size ≤ g) := fun g hg => by
    obtain ⟨e, he, hb⟩ := mem_blks.1 hg
    exact (hw.holds e (by simp [he])).2 g hb
  have hR : ∀ f ∈ R, ∀ g, f.has g → g ∉ blks S1 := fun f hf g hg hm => by
    obtain ⟨e, he, hb⟩ := mem_blks.1 hm
    exact hap.2.2 e he f hf g hb hg
  refine ⟨⟨ht.keeps.os.trans hw.keeps.os, ht.keeps.tape.trans hw.keeps.tape, ht.keeps.output.trans hw.keeps.output, Nat.le_trans hw.keeps.size ht.keeps.size, fun k hk hkF => ?_⟩, fun e he => ?_, ?_⟩
  · refine (ht.keeps.block k (Nat.lt_of_lt_of_le hk hw.keeps.size) fun hm => ?_).trans (hw.keeps.block k hk hkF)
    rcases (hF k hm).2 with h | h
    · exact hkF h
    · omega
  · rcases List.mem_append.1 he with he | he
    · obtain ⟨h1, h2⟩ := ht.holds e he
      refine ⟨h1, fun g hg => ⟨(h2 g hg).1, ?_⟩⟩
      rcases (h2 g hg).2 with h | h
      · exact (hF g h).2
      · exact .inr (Nat.le_trans hw.keeps.size h)
    · obtain ⟨h1, h2⟩ := hw.holds e (by simp [he])
      refine ⟨e.loc w w' (fun g hg => ht.keeps.block g (h2 g hg).1 (hR e he g hg)) h1, fun g hg => ⟨Nat.lt_of_lt_of_le (h2 g hg).1 ht.keeps.size, (h2 g hg).2⟩⟩
  · rw [List.pairwise_append]
    refine ⟨ht.apart, hap.2.1, fun e he f hf g hg hg' => ?_⟩
    rcases ((ht.holds e he).2 g hg).2 with h | h
    · exact hR f hf g hg' h
    · have := ((hw.holds f (by simp [hf])).2 g hg').1
      have h' : w.heap.size ≤ g := h
      omega
end
section
variable {P : Program} {C : Ctx} {Q : Exit → Act → World → Prop} {E : Slots} {S S1 S1' R : List Ent}
variable {d ty : Nat} {ps : String} {af : Array Edge} {g0 : Option (Nat × Bool)} {f : Nat}
/-! function values -/
theorem evs_toArray {a : Act} (ha : Env C.n a E) {xs : List Operand} {vs : List Value} (h : evs E xs = some vs) : xs.toArray.map a.eval = vs.toArray := by
  have := evs_eq ha h
  simp [this]
theorem QS_makeFunc {fn : Fn} {xs ys : List Operand} {vs us : List Value} (hx : evs E xs = some vs) (hy : evs E ys = some us) : QS P C E S (.makeFunc fn xs.toArray ys.toArray) ty (.func fn vs.toArray us.toArray) :=
  QS.of (fun a w ha _ => by
    simp only [execOp, Instr.makeFunc, evs_toArray ha hx, evs_toArray ha hy]; rfl)
theorem run_callV [hf : IsFn P f] {x : Operand} {xs : List Operand} {vs us cs : List Value} {ats : Array TypeId} (hv : evo E x = some (.func (.func f) us.toArray cs.toArray)) (hx : evs E xs = some vs) {a : Act} {w : World} (ha : Env C.n a E) :
    (execOp a.eval ⟨some d, .call ⟨.value x, xs.toArray, ats⟩, ty, ps, af, g0⟩).run P w = .ok (.enter f (us ++ vs ++ cs).toArray) w := by
  have h1 := ha.evo hv
  have h2 := evs_toArray ha hx
  simp only [execOp, resolve, h1, h2, Deferred.ofValue, Sem.run_bind, Sem.run_pure, Result.andThen_ok, invoke]
  have h3 := hf.run (us.toArray ++ vs.toArray ++ cs.toArray) w
  rw [h3]
  simp
/-- a call of a function value that leaves all alone -/
theorem ES_callFV [hf : IsFn P f] {x : Operand} {xs : List Operand} {vs us cs : List Value} {ats : Array TypeId} {v : Value} (hv : evo E x = some (.func (.func f) us.toArray cs.toArray)) (hx : evs E xs = some vs)
    (hc : ∀ w, Mem C w S → Calls P f (us ++ vs ++ cs).toArray w fun e w' => e = .returned v ∧ Below w.heap.size w w') (hd : Nat.ble (d + 1) C.n = true) :
    ES P C E S ⟨some d, .call ⟨.value x, xs.toArray, ats⟩, ty, ps, af, g0⟩ (fun E' S' => E' = (d, v) :: E ∧ S' = S) := by
  refine (ES_enter (fun u T => u = v ∧ T = S) (fun a w ha => run_callV hv hx ha) (fun w hw => (hc w hw).mono fun e w' ⟨he, hb⟩ => ⟨v, _, he, hw.below hb, rfl, rfl⟩) hd).weak (by rintro _ _ ⟨_, ⟨rfl, rfl⟩, rfl⟩; exact ⟨rfl, rfl⟩)
end
/-! what is known, in another order -/
inductive Pick : List Ent → Ent → List Ent → Prop
  | here (e : Ent) (S : List Ent) : Pick (e :: S) e S
  | there {S R : List Ent} {e : Ent} (f : Ent) (h : Pick S e R) : Pick (f :: S) e (f :: R)
theorem Pick.form {S R : List Ent} {e : Ent} (h : Pick S e R) : ∃ A B, S = A ++ e :: B ∧ R = A ++ B := by
  induction h with
  | here e S => exact ⟨[], S, rfl, rfl⟩
  | there f _ ih => obtain ⟨A, B, rfl, rfl⟩ := ih; exact ⟨f :: A, B, rfl, rfl⟩
inductive Sel : List Ent → List Ent → Prop
  | nil (S : List Ent) : Sel S []
  | cons {S R T : List Ent} {e : Ent} (h : Pick S e R) (t : Sel R T) : Sel S (e :: T)
section
variable {C : Ctx} {w : World} {S R T' : List Ent} {e : Ent}
theorem Mem.pick (hw : Mem C w S) (h : Pick S e R) : Mem C w (e :: R) := by
  obtain ⟨A, B, rfl, rfl⟩ := h.form
  have hap := hw.apart
  rw [List.pairwise_append, List.pairwise_cons] at hap
  obtain ⟨hA, ⟨hB1, hB⟩, hAB⟩ := hap
  refine ⟨hw.keeps, fun f hf => hw.holds f ?_, ?_⟩
  · rcases List.mem_cons.1 hf with rfl | hf
    · simp
    · rcases List.mem_append.1 hf with h | h <;> simp [h]
  · rw [List.pairwise_cons, List.pairwise_append]
    refine ⟨fun f hf g hg hg' => ?_, hA, hB, fun f hf k hk => hAB f hf k (by simp [hk])⟩
    rcases List.mem_append.1 hf with hf | hf
    · exact hAB f hf e (by simp) g hg' hg
    · exact hB1 f hf g hg hg'
theorem Sel.mem : ∀ {S T : List Ent}, Sel S T → ∀ f ∈ T, f ∈ S
  | _, _, .nil _, f, h => by simp at h
  | _, _, .cons h t, f, hf => by
    obtain ⟨A, B, rfl, rfl⟩ := h.form
    rcases List.mem_cons.1 hf with rfl | hf
    · simp
    · rcases List.mem_append.1 (t.mem f hf) with h | h <;> simp [h]
theorem Mem.sel (hw : Mem C w S) (h : Sel S T') : Mem C w T' := by
  induction h with
  | nil S => exact hw.sub (List.nil_sublist _)
  | @cons S R T e h t ih =>
    have h1 := hw.pick h
    have hap := List.pairwise_cons.1 h1.apart
    have h2 := ih (h1.sub (List.sublist_cons_self _ _))
    refine ⟨h2.keeps, fun f hf => ?_, ?_⟩
    · rcases List.mem_cons.1 hf with rfl | hf
      · exact h1.holds f (by simp)
      · exact h2.holds f hf
    · exact List.pairwise_cons.2 ⟨fun f hf => hap.1 f (t.mem f hf), h2.apart⟩
end
/-! a cut: what is known behind a region, said once -/
def Cut {X : Type} (C : Ctx) (I : X → Slots) (J : X → List Ent) (pre : X → Prop) (a : Act) (w : World) : Prop := ∃ x, pre x ∧ Env C.n a (I x) ∧ Mem C w (J x)
section
variable {P : Program} {C : Ctx} {Q : Exit → Act → World → Prop} {E : Slots} {S : List Ent}
theorem T_cut {X : Type} {x y : Code} (I : X → Slots) (J : X → List Ent) (pre : X → Prop) (hx : T P C x (Exit.then (Cut C I J pre) Q) E S) (hy : ∀ z, pre z → T P C y Q (I z) (J z)) : T P C (.seq x y) Q E S :=
  ⟨fun a w ha hw => wp_seq (Code.wp_mono (fun e a' w' h => by
    cases e with
    | normal =>
      obtain ⟨z, hp, he, hm⟩ := h
      exact (hy z hp).run a' w' he hm
    | _ => exact h) (hx.run a w ha hw))⟩
theorem T_cutAt {X : Type} (id : Nat) {ops : Array Oper} {dr : Bool} {y : Code} (I : X → Slots) (J : X → List Ent) (pre : X → Prop) (hx : T P C (.region id ops dr) (Exit.then (Cut C I J pre) Q) E S) (hy : ∀ z, pre z → T P C y Q (I z) (J z)) : T P C (.seq (.region id ops dr) y) Q E S :=
  T_cut I J pre hx hy
theorem At_cut {X : Type} {I : X → Slots} {J : X → List Ent} {pre : X → Prop} (z : X) (hp : pre z) (hE : SubE E (I z)) (hS : ∀ w, Mem C w S → Mem C w (J z)) : At C (Exit.then (Cut C I J pre) Q .normal) E S :=
  ⟨fun a w ha hw => ⟨z, hp, ha.sub hE, hS w hw⟩⟩
end
end Go.Proofs.Ytaonijdhmgcbjaa

namespace Go.Proofs.Ytaonijdhmgcbjaa
open Go.RowKit

section
variable {P : Program} {C : Ctx} {E : Slots} {S : List Ent}
theorem Lds.auto {s : Nat} {ad : Addr} {v : Value} (h : Lds P C S s ad v := by first | exact Lds.blk (by first | ((repeat (first | with_reducible exact List.mem_cons_self | with_reducible apply List.mem_cons_of_mem)); done) | (repeat (first | exact List.Mem.head _ | apply List.Mem.tail))) (by first | exact relCells_nV _ _ | exact relCells_atV _ _ _ (by omega) | exact rfl) | exact Lds.whole (by first | ((repeat (first | with_reducible exact List.mem_cons_self | with_reducible apply List.mem_cons_of_mem)); done) | (repeat (first | exact List.Mem.head _ | apply List.Mem.tail))) (by first | rfl | exact relCells_size _ _) | exact Lds.rd1 (by assumption) (by first | assumption | (simp; done)) (by first | assumption | omega) rfl | exact Lds.rd0 (by assumption) (by first | assumption | (simp; done)) (by first | assumption | omega) rfl | exact Lds.rd (by assumption) (by first | assumption | (simp; done)) (by first | assumption | omega) rfl | exact Lds.rdAgg (by assumption) (by intro x; rfl) (by first | assumption | (simp; done)) (by first | assumption | omega) | exact Lds.own1 (by first | ((repeat (first | with_reducible exact List.mem_cons_self | with_reducible apply List.mem_cons_of_mem)); done) | (repeat (first | exact List.Mem.head _ | apply List.Mem.tail))) (by intro x; rfl) (by first | assumption | omega) rfl | exact Lds.own0 (by first | ((repeat (first | with_reducible exact List.mem_cons_self | with_reducible apply List.mem_cons_of_mem)); done) | (repeat (first | exact List.Mem.head _ | apply List.Mem.tail))) (by intro x; rfl) (by first | assumption | omega) rfl | exact Lds.own (by first | ((repeat (first | with_reducible exact List.mem_cons_self | with_reducible apply List.mem_cons_of_mem)); done) | (repeat (first | exact List.Mem.head _ | apply List.Mem.tail))) (by intro x; rfl) (by first | assumption | omega) rfl | exact Lds.ownAgg (by first | ((repeat (first | with_reducible exact List.mem_cons_self | with_reducible apply List.mem_cons_of_mem)); done) | (repeat (first | exact List.Mem.head _ | apply List.Mem.tail))) (by intro x; rfl) (by first | assumption | omega) | exact Lds.rdz (by assumption) (by first | assumption | (simp; done)) (by first | assumption | omega) rfl | fail) : Lds P C S s ad v := h
theorem QS.auto {op : Op} {ty : Nat} {v : Value} (h : QS P C E S op ty v := by first | ((with_reducible apply QS_addWW); exact rfl; exact rfl) | ((with_reducible apply QS_move); exact rfl) | ((with_reducible apply QS_assign); exact rfl) | ((with_reducible apply QS_field); exact rfl; (first | exact Nat.add_zero _ | exact Nat.zero_add _ | exact rfl)) | ((with_reducible apply QS_load); exact rfl; exact Lds.auto) | ((with_reducible apply QS_lss); exact rfl; exact rfl) | ((with_reducible apply QS_eql); exact rfl; exact rfl) | ((with_reducible apply QS_neq); exact rfl; exact rfl) | ((with_reducible apply QS_leq); exact rfl; exact rfl) | ((with_reducible apply QS_gtr); exact rfl; exact rfl) | ((with_reducible apply QS_geq); exact rfl; exact rfl) | ((with_reducible apply QS_not); exact rfl) | ((with_reducible apply QS_add); exact rfl; exact rfl; omega; omega) | ((with_reducible apply QS_sub); exact rfl; exact rfl; omega; omega) | ((with_reducible apply QS_mul); exact rfl; exact rfl; omega; omega) | ((with_reducible apply QS_len); exact rfl) | ((with_reducible apply QS_lenArray); exact rfl) | ((with_reducible apply QS_pick_true); exact rfl; (with_reducible exact rfl); exact rfl) | ((with_reducible apply QS_pick_false); exact rfl; (with_reducible exact rfl); exact rfl) | ((with_reducible apply QS_pick_bool); exact rfl; exact rfl; exact rfl) | ((with_reducible apply QS_pick); exact rfl; exact rfl; exact rfl) | ((with_reducible apply QS_index); exact rfl; exact rfl; omega; (first | exact off_z _ _ | exact off_01 _ | exact off_0m _ _ | exact off_o1 _ _ | exact rfl)) | ((with_reducible apply QS_indexA); exact rfl; exact rfl; omega; (first | exact off_z _ _ | exact off_01 _ | exact off_0m _ _ | exact off_o1 _ _ | exact rfl)) | ((with_reducible apply QS_indexL); exact rfl; exact rfl; exact inferInstance; omega; (first | exact off_z _ _ | exact off_01 _ | exact off_0m _ _ | exact off_o1 _ _ | exact rfl)) | ((with_reducible apply QS_indexAL); exact rfl; exact rfl; exact inferInstance; omega; (first | exact off_z _ _ | exact off_01 _ | exact off_0m _ _ | exact off_o1 _ _ | exact rfl)) | ((with_reducible apply QS_indexZ); exact rfl; exact rfl; omega; omega; (first | exact off_z _ _ | exact off_01 _ | exact off_0m _ _ | exact off_o1 _ _ | exact rfl)) | ((with_reducible apply QS_indexAZ); exact rfl; exact rfl; omega; omega; (first | exact off_z _ _ | exact off_01 _ | exact off_0m _ _ | exact off_o1 _ _ | exact rfl)) | ((with_reducible apply QS_extract); exact rfl; exact rfl) | ((with_reducible apply QS_nilCheck); exact rfl) | ((with_reducible apply QS_max); exact rfl; exact rfl) | ((with_reducible apply QS_min); exact rfl; exact rfl) | ((with_reducible apply QS_convert); exact rfl; omega; omega) | ((with_reducible apply QS_buildF); exact rfl; exact rfl; ((repeat (first | exact IsL.nil | apply IsL.cons | exact IsL.refl _)))) | ((with_reducible apply QS_shr16); exact rfl; exact rfl; (first | assumption | omega | decide | exact Nat.lt_of_le_of_lt (Nat.shiftRight_le _ _) (by first | assumption | omega) | (apply_assumption <;> omega))) | ((with_reducible apply QS_and16); exact rfl; exact rfl; (first | assumption | omega | decide | exact Nat.lt_of_le_of_lt (Nat.shiftRight_le _ _) (by first | assumption | omega) | (apply_assumption <;> omega)); (first | assumption | omega | decide | exact Nat.lt_of_le_of_lt (Nat.shiftRight_le _ _) (by first | assumption | omega) | (apply_assumption <;> omega))) | ((with_reducible apply QS_or16); exact rfl; exact rfl; (first | assumption | omega | decide | exact Nat.lt_of_le_of_lt (Nat.shiftRight_le _ _) (by first | assumption | omega) | (apply_assumption <;> omega)); (first | assumption | omega | decide | exact Nat.lt_of_le_of_lt (Nat.shiftRight_le _ _) (by first | assumption | omega) | (apply_assumption <;> omega))) | ((with_reducible apply QS_andNot16); exact rfl; exact rfl; (first | assumption | omega | decide | exact Nat.lt_of_le_of_lt (Nat.shiftRight_le _ _) (by first | assumption | omega) | (apply_assumption <;> omega)); (first | assumption | omega | decide | exact Nat.lt_of_le_of_lt (Nat.shiftRight_le _ _) (by first | assumption | omega) | (apply_assumption <;> omega))) | ((with_reducible apply QS_shl16); exact rfl; exact rfl; omega) | ((with_reducible apply QS_shr64); exact rfl; exact rfl; (first | assumption | omega | decide | exact Nat.lt_of_le_of_lt (Nat.shiftRight_le _ _) (by first | assumption | omega) | (apply_assumption <;> omega))) | ((with_reducible apply QS_and64); exact rfl; exact rfl; (first | assumption | omega | decide | exact Nat.lt_of_le_of_lt (Nat.shiftRight_le _ _) (by first | assumption | omega) | (apply_assumption <;> omega)); (first | assumption | omega | decide | exact Nat.lt_of_le_of_lt (Nat.shiftRight_le _ _) (by first | assumption | omega) | (apply_assumption <;> omega))) | ((with_reducible apply QS_or64); exact rfl; exact rfl; (first | assumption | omega | decide | exact Nat.lt_of_le_of_lt (Nat.shiftRight_le _ _) (by first | assumption | omega) | (apply_assumption <;> omega)); (first | assumption | omega | decide | exact Nat.lt_of_le_of_lt (Nat.shiftRight_le _ _) (by first | assumption | omega) | (apply_assumption <;> omega))) | ((with_reducible apply QS_shl64); exact rfl; exact rfl; omega) | ((with_reducible apply QS_eqlB); exact rfl; exact rfl) | ((with_reducible apply QS_neqB); exact rfl; exact rfl) | ((with_reducible apply QS_sliceLow); exact rfl; exact rfl; (first | assumption | omega)) | ((with_reducible apply QS_eqlNil); exact rfl; exact rfl) | ((with_reducible apply QS_neqNil); exact rfl; exact rfl) | ((with_reducible apply QS_addW); exact rfl; exact rfl) | ((with_reducible apply QS_subW); exact rfl; exact rfl) | ((with_reducible apply QS_mulW); exact rfl; exact rfl) | ((with_reducible apply QS_lookI); exact rfl; exact rfl; (first | ((repeat (first | with_reducible exact List.mem_cons_self | with_reducible apply List.mem_cons_of_mem)); done) | (repeat (first | exact List.Mem.head _ | apply List.Mem.tail)))) | ((with_reducible apply QS_lookIok); exact rfl; exact rfl; (first | ((repeat (first | with_reducible exact List.mem_cons_self | with_reducible apply List.mem_cons_of_mem)); done) | (repeat (first | exact List.Mem.head _ | apply List.Mem.tail)))) | ((with_reducible apply QS_lookB); exact rfl; exact rfl; (first | ((repeat (first | with_reducible exact List.mem_cons_self | with_reducible apply List.mem_cons_of_mem)); done) | (repeat (first | exact List.Mem.head _ | apply List.Mem.tail)))) | ((with_reducible apply QS_lookBok); exact rfl; exact rfl; (first | ((repeat (first | with_reducible exact List.mem_cons_self | with_reducible apply List.mem_cons_of_mem)); done) | (repeat (first | exact List.Mem.head _ | apply List.Mem.tail)))) | ((with_reducible apply QS_lenMap); exact rfl; (first | ((repeat (first | with_reducible exact List.mem_cons_self | with_reducible apply List.mem_cons_of_mem)); done) | (repeat (first | exact List.Mem.head _ | apply List.Mem.tail)))) | ((with_reducible apply QS_makeFunc); exact rfl; exact rfl) | fail) : QS P C E S op ty v := h
theorem ES.auto {o : Oper} {N : Slots → List Ent → Prop} (h : ES P C E S o N := by first | ((with_reducible apply ES_alloc); (first | exact cells_agg _ | exact cellsL (by (repeat (first | exact IsL.nil | apply IsL.cons | exact IsL.refl _))) | exact rfl); exact rfl) | ((with_reducible apply ES_box); exact rfl; (first | exact cells_agg _ | exact cellsL (by (repeat (first | exact IsL.nil | apply IsL.cons | exact IsL.refl _))) | exact rfl); exact rfl) | ((with_reducible apply ES_buildSliceF); exact rfl; exact rfl; exact rfl; exact rfl; exact rfl; ((repeat (first | exact IsL.nil | apply IsL.cons | exact IsL.refl _))); exact rfl) | ((with_reducible apply ES_storeWhole); exact rfl; exact rfl; (first | ((repeat (first | with_reducible exact Upd.here _ _ _ | with_reducible apply Upd.there)); done) | (repeat (first | exact Upd.here _ _ _ | apply Upd.there))); (first | exact rfl | exact relCells_size _ _); (first | exact rfl | exact relCells_size _ _); (first | exact rfl | exact relCells_onesL _ _)) | ((with_reducible apply ES_store); exact rfl; exact rfl; (first | ((repeat (first | with_reducible exact Upd.here _ _ _ | with_reducible apply Upd.there)); done) | (repeat (first | exact Upd.here _ _ _ | apply Upd.there))); (first | exact relCells_set _ _ _ _ (by omega) | exact arrSet (by (repeat (first | exact IsL.nil | apply IsL.cons | exact IsL.refl _))) | rfl); (first | (simp only [relCells_size, List.size_toArray, List.length_cons, List.length_nil]; omega) | (simp [relCells_size]; done) | (simp [relCells_size]; omega)); exact rfl) | ((with_reducible apply ES_storeOwn1); exact rfl; exact rfl; (first | ((repeat (first | with_reducible exact Upd.here _ _ _ | with_reducible apply Upd.there)); done) | (repeat (first | exact Upd.here _ _ _ | apply Upd.there))); exact fun _ => rfl; (first | exact List.getElem?_set_self (by first | assumption | omega) | exact List.getElem?_eq_getElem (by first | assumption | omega | (simp only [List.length_set]; omega))); (first | exact rfl  ); exact rfl) | ((with_reducible apply ES_storeOwn0); exact rfl; exact rfl; (first | ((repeat (first | with_reducible exact Upd.here _ _ _ | with_reducible apply Upd.there)); done) | (repeat (first | exact Upd.here _ _ _ | apply Upd.there))); exact fun _ => rfl; (first | exact List.getElem?_set_self (by first | assumption | omega) | exact List.getElem?_eq_getElem (by first | assumption | omega | (simp only [List.length_set]; omega))); decide; (first | exact rfl  ); exact rfl) | ((with_reducible apply ES_storeOwn); exact rfl; exact rfl; (first | ((repeat (first | with_reducible exact Upd.here _ _ _ | with_reducible apply Upd.there)); done) | (repeat (first | exact Upd.here _ _ _ | apply Upd.there))); exact fun _ => rfl; (first | exact List.getElem?_set_self (by first | assumption | omega) | exact List.getElem?_eq_getElem (by first | assumption | omega | (simp only [List.length_set]; omega))); decide; (first | exact rfl  ); exact rfl) | ((with_reducible apply ES_makeSlice (enc := intEnc) (z0 := 0)); exact rfl; exact rfl; exact rfl; (first | omega | (simp; omega)); decide; exact rfl) | ((with_reducible apply ES_makeSlice (enc := boolEnc) (z0 := false)); exact rfl; exact rfl; exact rfl; (first | omega | (simp; omega)); decide; exact rfl) | ((with_reducible apply ES_makeMapI); exact rfl) | ((with_reducible apply ES_makeMapB); exact rfl) | ((with_reducible apply ES_mapUpdate); exact rfl; exact rfl; (first | ((repeat (first | with_reducible exact Upd.here _ _ _ | with_reducible apply Upd.there)); done) | (repeat (first | exact Upd.here _ _ _ | apply Upd.there))); exact rfl) | fail) : ES P C E S o N := h
/-- what a step leaves to be shown -/
structure Rest (R : Prop) : Prop where
  out : R
/-! one step of a walk: what is left to be shown is the step's own to find -/
theorem GO {p R : Prop} (r : R) (h : Rest R → p := by intro r; first | ((with_reducible (first | apply T_seq | apply T_region | apply TL_nil | apply At_then | apply T_block | apply At_block | apply T_skip | apply T_exit | apply At_then_exit | apply At_block_exit | apply T_ret | apply At_then_ret | apply At_block_ret | apply TD_nil)); exact r.out) | ((with_reducible apply At_block_past); exact rfl; exact r.out) | ((with_reducible apply TL_q); exact QS.auto; exact rfl; exact r.out) | ((with_reducible apply TL_yes); exact rfl; exact rfl; (with_reducible exact rfl); exact r.out) | ((with_reducible apply TL_no); exact rfl; exact rfl; (first | with_reducible exact Bool.not_true.symm | with_reducible exact Bool.not_false.symm); exact rfl; exact r.out) | ((with_reducible apply TL_no_undef); exact rfl; exact rfl; exact rfl; exact r.out)) : p := h ⟨r⟩
theorem GOE {p R : Prop} (r : R) (h : Rest R → p := by intro r; (with_reducible apply TL_e); exact ES.auto; exact rfl; exact r.out) : p := h ⟨r⟩
theorem GO2 {p R T : Prop} (r : R) (s : T) (h : Rest R → Rest T → p := by intro r s; first | ((with_reducible apply T_cond); exact rfl; exact r.out; exact s.out) | ((with_reducible (first | apply TL_guard | apply TD_guard)); exact rfl; exact rfl; (fail_if_success (with_reducible refine imp_lit1 ?_)); (fail_if_success (with_reducible refine imp_lit0)); exact r.out; exact s.out)) : p := h ⟨r⟩ ⟨s⟩
theorem GG {p R : Prop} (r : R) (h : Rest R → p := by intro r; first | ((with_reducible (first | apply TD_q0 | apply TD_q1 | apply TD_q2 | apply TD_q3)); exact QS.auto; exact rfl; exact r.out) | ((with_reducible (first | apply TD_q0y | apply TD_q1y)); exact rfl; exact rfl; (with_reducible exact rfl); exact QS.auto; exact rfl; exact r.out) | ((with_reducible apply TL_q); exact QS.auto; exact rfl; exact r.out) | ((with_reducible (first | apply T_seq | apply T_region | apply TL_nil | apply At_then | apply T_block | apply At_block | apply T_skip | apply T_exit | apply At_then_exit | apply At_block_exit | apply T_ret | apply At_then_ret | apply At_block_ret | apply TD_nil)); exact r.out) | ((with_reducible apply At_block_past); exact rfl; exact r.out) | ((with_reducible apply TD_no); exact rfl; exact rfl; exact rfl; (first | with_reducible exact Bool.not_true.symm | with_reducible exact Bool.not_false.symm); exact rfl; exact r.out) | ((with_reducible apply TD_eno); exact rfl; exact rfl; exact rfl; (first | with_reducible exact Bool.not_true.symm | with_reducible exact Bool.not_false.symm); exact rfl; exact r.out) | ((with_reducible apply TD_noU); exact rfl; exact rfl; exact rfl; exact rfl; exact r.out) | ((with_reducible apply TD_enoU); exact rfl; exact rfl; exact rfl; exact rfl; exact r.out) | ((with_reducible apply TL_yes); exact rfl; exact rfl; (with_reducible exact rfl); exact r.out) | ((with_reducible apply TL_no); exact rfl; exact rfl; (first | with_reducible exact Bool.not_true.symm | with_reducible exact Bool.not_false.symm); exact rfl; exact r.out) | ((with_reducible apply TL_no_undef); exact rfl; exact rfl; exact rfl; exact r.out)) : p := h ⟨r⟩
theorem GE {p R : Prop} (r : R) (h : Rest R → p := by intro r; first | ((with_reducible (first | apply TD_e2 | apply TD_e3)); exact ES.auto; exact rfl; exact r.out) | ((with_reducible apply TL_e); exact ES.auto; exact rfl; exact r.out) | ((with_reducible (first | apply TD_e2y | apply TD_e3y)); exact rfl; exact rfl; (with_reducible exact rfl); exact ES.auto; exact r.out)) : p := h ⟨r⟩
theorem GOF {p R T : Prop} (r : R) (s : T) (h : Rest R → Rest T → p := by (intro r s; (with_reducible apply TD_fork); exact r.out; exact s.out)) : p := h ⟨r⟩ ⟨s⟩
end
theorem SUB {A B : List Ent} (h : A.Sublist B := by (repeat (first | with_reducible exact List.nil_sublist _ | with_reducible exact List.Sublist.refl _ | with_reducible apply List.Sublist.cons_cons | with_reducible apply List.Sublist.cons))) : A.Sublist B := h
theorem SUBS {C : Ctx} {S S' : List Ent} (h : ∀ w, Mem C w S → Mem C w S' := by (intro w hw; exact hw.sub (by first | ((repeat (first | with_reducible exact List.nil_sublist _ | with_reducible exact List.Sublist.refl _ | with_reducible apply List.Sublist.cons_cons | with_reducible apply List.Sublist.cons)); done) | (repeat (first | exact List.nil_sublist _ | exact List.Sublist.refl _ | apply List.Sublist.cons_cons | apply List.Sublist.cons))))) : ∀ w, Mem C w S → Mem C w S' := h
section
variable {P : Program} {C : Ctx} {Q : Exit → Act → World → Prop} {e : Nat} {S0 S : List Ent} {E : Slots} {l : List Oper} {t : Tr} {ty i j k : Nat} {ps : String} {af : Array Edge} {op : Op} {b want : Bool}
theorem TD_e2z {dst : Option Tmp} {N : Slots → List Ent → Prop} (he : ES P C E S ⟨dst, op, ty, ps, af, some (j, want)⟩ N) (hg : dstAt l j = some k ∧ look k E = some (.bool b) ∧ b = want)
    (h : ∀ E' S', N E' S' → S0.Sublist S' ∧ TD P C l Q e S0 t E' S') : TD P C l Q e S0 (.step 2 i ⟨dst, op, ty, ps, af, some (j, want)⟩ t) E S := TD_e2y hg.1 hg.2.1 hg.2.2 he h
theorem TD_e3z {dst : Option Tmp} {N : Slots → List Ent → Prop} (he : ES P C E S ⟨dst, op, ty, ps, af, some (j, want)⟩ N) (hg : dstAt l j = some k ∧ look k E = some (.bool b) ∧ b = want)
    (h : ∀ E' S', N E' S' → TD P C l Q e S0 t E' S') : TD P C l Q e S0 (.step 3 i ⟨dst, op, ty, ps, af, some (j, want)⟩ t) E S := TD_e3y hg.1 hg.2.1 hg.2.2 he h
end
end Go.Proofs.Ytaonijdhmgcbjaa

namespace Go.Proofs.Ytaonijdhmgcbjaa
open Go.RowKit

theorem nthV_rd (t v : Value) (op : Nat → Int) (i : Nat) (h : i < 8) : nthV (rdCells t v op).toList (2 + i) = some (.int .i64 (op i)) := by rw [← nthV_eq]; simpa using rdCells_at t v op i h
theorem rdCells_size (t v : Value) (op : Nat → Int) : (rdCells t v op).size = 10 := by simp [rdCells]
theorem Mem.ownUp {C : Ctx} {S : List Ent} {α : Type} {enc : α → List Value} {M et c : Nat} {ls : List α} {A : Option Addr} {w : World} {B : Nat} (hw : Mem C w S) (hF : ∀ g ∈ C.F, B ≤ g) (hB : B ≤ C.w0.heap.size) (hm : entOwn enc M et A c ls ∈ S) : Own enc M et w B (.slice A ls.length c) ls := by
  obtain ⟨ho, hb⟩ := hw.holds _ hm
  have ho' : Own enc M et w 0 (.slice A ls.length c) ls := ho
  refine ⟨ho'.1, ?_⟩
  rcases ho'.2 with hn | ⟨g, cap, cur, hv, _, rest⟩
  · exact .inl hn
  · refine .inr ⟨g, cap, cur, hv, ?_, rest⟩
    rcases (hb g (by show (Value.slice A ls.length c).ownBlock = some g; rw [hv]; rfl)).2 with h | h
    · exact hF g h
    · omega
theorem Keeps.upto {F : List Nat} {B : Nat} {w w' : World} (h : Keeps F w w') (hF : ∀ g ∈ F, B ≤ g) (hB : B ≤ w.heap.size) : Below B w w' :=
  ⟨h.os, h.tape, h.output, h.size, fun k hk => h.block k (by omega) (fun hm => by have := hF k hm; omega)⟩
set_option maxRecDepth 100000 in
set_option maxHeartbeats 8000000 in
theorem event_call_ok (r : Nat) (T : Option Addr) (c : Nat) (ts : List Int) (v : Value) (op : Nat → Int) (i : Int) (k t : Nat) (kind value : Int) (w : World) (hl : ts.length ≤ 9223372036854775807) (hk : k < 8) (ht : t < ts.length)
    (hb : Blk w r 150 (rdCells (.slice T ts.length c) v op)) (hT : RdInt w T ts) (B : Nat) (hB : B ≤ r) (cs : List Cl) (hcs : cs.length ≤ 1000) (ho : OwnCl w B v cs)
    (hkind : (kind != 0) = true) (hf : fitsB ts[t] kind = true) (ha : argB kind value = true) (hop : op k = 0) (hTB : ∀ b o, T = some ⟨b, o, none⟩ → b < B) :
    Calls Try.prog 68 #[.pointer (some ⟨r, 0, none⟩), .int .i64 i, .agg (Ev.enc ⟨k, t, kind, value⟩).toArray] w fun e w' => ∃ v', e = .returned (.int .i64 0) ∧
      Blk w' r 150 (rdCells (.slice T ts.length c) v' (upz op k (cs.length + 1))) ∧ OwnCl w' B v' (cs ++ [⟨k, t, kind, value, 0, i, -1⟩]) ∧ Below B w w' := by
  have hne := ho.ne hb (by decide)
  have hk0 : kind ≠ 0 := by simpa using hkind
  obtain ⟨A, d, rfl⟩ := Own.form ho
  obtain ⟨b, o, rfl, hb0⟩ := RdE.open hT (by omega)
  have hbB := hTB b o rfl
  have hFb : b ∉ r :: (Value.slice A cs.length d).ownBlock.toList := by
    intro h
    rcases List.mem_cons.1 h with h | h
    · omega
    · have := (World.ownsRow.lt ho b (by simpa using h)).1
      omega
  refine calls_T (S := [entBlk r 150 (rdCells (.slice (some ⟨b, o, none⟩) ts.length c) (.slice A cs.length d) op), entOwn Cl.enc 7 107 A d cs]) (r :: (Value.slice A cs.length d).ownBlock.toList)
    Try.func68 rfl Try.ntmps68 (by simp) ?_ ?_
  · refine ⟨Keeps.refl _ _, ?_, ?_⟩
    · intro e he
      rcases List.mem_cons.1 he with rfl | he
      · exact ⟨hb, fun g hg => by cases hg; exact ⟨hb.lt, .inl (by simp)⟩⟩
      · obtain rfl := List.mem_singleton.1 he
        exact ⟨ho.base, fun g hg => by
          have hg' : (Value.slice A cs.length d).ownBlock = some g := hg
          exact ⟨(World.ownsRow.lt ho g hg').2, .inl (List.mem_cons_of_mem _ (by simp [hg']))⟩⟩
    · refine List.pairwise_cons.2 ⟨fun f hf g hg hg' => ?_, List.pairwise_singleton _ _⟩
      obtain rfl := List.mem_singleton.1 hf
      cases hg
      exact hne hg'
  repeat' (first | ((first | with_reducible (first | apply TL_q | apply TD_q0 | apply TD_q1 | apply TD_q2 | apply TD_q3) | ((with_reducible (first | apply TD_q0y | apply TD_q1y)); exact rfl; exact rfl; (with_reducible exact rfl))); (first | exact QS.auto | ((with_reducible apply QS_load); exact rfl; (first | exact Lds.blk (by first | ((repeat (first | with_reducible exact List.mem_cons_self | with_reducible apply List.mem_cons_of_mem)); done) | (repeat (first | exact List.Mem.head _ | apply List.Mem.tail))) (nthV_rd _ _ _ _ (by omega)) | exact Lds.rd1 (by assumption) (by exact hFb) (by first | assumption | omega) rfl))); exact rfl) | ((with_reducible (first | apply TD_e2z | apply TD_e3z | apply TL_e | apply TD_e2 | apply TD_e3)); (first | exact ES.auto | ((with_reducible apply ES_store); exact rfl; exact rfl; (first | ((repeat (first | with_reducible exact Upd.here _ _ _ | with_reducible apply Upd.there)); done) | (repeat (first | exact Upd.here _ _ _ | apply Upd.there))); (first | exact rdCells_setv _ _ _ _ | exact rdCells_set _ _ _ _ (by omega) _); (first | (simp only [rdCells_size]; omega) | (simp [rdCells_size]; done) | (simp [rdCells_size]; omega)); exact rfl)); (first | exact rfl | exact ⟨rfl, rfl, rfl⟩); (first | (rintro _ _ ⟨rfl, rfl⟩) | (rintro _ _ ⟨g, rfl, rfl⟩) | (rintro _ _ ⟨A', c', rfl, rfl⟩)); (try refine ⟨SUB, ?_⟩)) | (refine GG ?_) | (refine GE ?_; (first | (rintro _ _ ⟨rfl, rfl⟩) | (rintro _ _ ⟨g, rfl, rfl⟩) | (rintro _ _ ⟨A', c', rfl, rfl⟩)); (try refine ⟨SUB, ?_⟩)) | ((refine GO2 ?_ ?_) <;> intro h <;> (try dsimp only at h) <;> (try (repeat (first | with_reducible (replace h := of_decide_eq_true h) | with_reducible (replace h := of_decide_eq_false h) | with_reducible (replace h := bnt h) | with_reducible (replace h := bnf h) | with_reducible (replace h := Int.not_lt.mp h) | with_reducible (replace h := Int.not_le.mp h) | with_reducible (replace h := band_dec h) | with_reducible (replace h := band_decF h) | with_reducible (replace h := bor_dec h) | with_reducible (replace h := bor_decF h)))) <;> (try (exfalso; first | contradiction | omega))) | (refine GOF ?_ ?_) | ((with_reducible apply T_draw (id := 1) 1000 (OT.seq [(0, 0), (1, 1), (0, 2), (0, 3), (0, 4), (1, 5), (0, 6), (0, 7), (0, 8), (0, 9), (1, 10), (0, 11), (0, 12), (0, 13), (0, 14), (0, 16), (0, 17), (0, 18), (1, 15), (1, 19), (0, 20), (0, 21), (0, 22)] .nil)); kernel_rfl; exact rfl; kernel_rfl; (repeat (first | with_reducible exact Blind.body | with_reducible apply Blind.seq | with_reducible apply Blind.block))) | ((with_reducible apply T_draw (id := 3) 1000 (OT.seq [(0, 0), (0, 1), (0, 3), (0, 4), (1, 2), (0, 5), (1, 6), (0, 7)] .nil)); kernel_rfl; exact rfl; kernel_rfl; (repeat (first | with_reducible exact Blind.body | with_reducible apply Blind.seq | with_reducible apply Blind.block))) | ((with_reducible apply T_draw (id := 5) 1000 (OT.seq [(0, 0), (0, 1), (0, 2), (0, 4), (0, 8), (1, 3), (1, 5), (0, 6), (1, 7), (1, 9), (2, 10), (0, 11), (0, 12), (0, 13), (0, 15), (1, 14), (1, 16), (2, 17), (0, 18), (0, 19), (0, 20)] .nil)); kernel_rfl; exact rfl; kernel_rfl; (repeat (first | with_reducible exact Blind.body | with_reducible apply Blind.seq | with_reducible apply Blind.block))) | ((with_reducible apply T_draw (id := 9) 16 (OT.seq [(0, 0), (0, 1), (0, 2), (0, 3), (0, 5), (0, 7), (0, 9), (0, 11), (0, 13), (1, 4), (1, 6), (1, 8), (1, 10), (1, 12), (0, 14), (2, 15), (3, 16), (0, 17), (0, 18), (3, 19)] .nil)); kernel_rfl; exact rfl; kernel_rfl; (repeat (first | with_reducible exact Blind.body | with_reducible apply Blind.seq | with_reducible apply Blind.block))) | ((with_reducible apply T_draw (id := 10) 11 (OT.seq [(0, 0), (0, 1), (0, 3), (0, 4), (0, 5), (0, 8), (0, 9), (1, 2), (1, 6), (0, 7), (0, 10), (3, 11)] .nil)); kernel_rfl; exact rfl; kernel_rfl; (repeat (first | with_reducible exact Blind.body | with_reducible apply Blind.seq | with_reducible apply Blind.block))) | ((with_reducible apply T_draw (id := 15) 1000 (OT.seq [(0, 0), (0, 1), (0, 2), (0, 4), (1, 3), (1, 5), (0, 6), (0, 7), (0, 8), (0, 9), (0, 10), (0, 12), (1, 11), (1, 13), (2, 14), (0, 15), (0, 16)] .nil)); kernel_rfl; exact rfl; kernel_rfl; (repeat (first | with_reducible exact Blind.body | with_reducible apply Blind.seq | with_reducible apply Blind.block))) | ((with_reducible apply T_draw (id := 18) 6 (OT.seq [(0, 0), (0, 1), (0, 3), (0, 4), (1, 2), (0, 5), (3, 6)] .nil)); kernel_rfl; exact rfl; kernel_rfl; (repeat (first | with_reducible exact Blind.body | with_reducible apply Blind.seq | with_reducible apply Blind.block))) | ((with_reducible (first | apply TD_e2z | apply TD_e3z | apply TL_e | apply TD_e2 | apply TD_e3)); ((with_reducible apply ES_callV); exact rfl; (intro w hw; exact Calls.same_below (fits_any _ _ _)); exact rfl); (first | exact rfl | exact ⟨rfl, rfl, rfl⟩); (rintro _ _ ⟨rfl, rfl⟩); (try refine ⟨SUB, ?_⟩)) | ((with_reducible (first | apply TD_e2z | apply TD_e3z | apply TL_e | apply TD_e2 | apply TD_e3)); ((with_reducible apply ES_callV); exact rfl; (intro w hw; exact Calls.same_below (argument_any _ _ _)); exact rfl); (first | exact rfl | exact ⟨rfl, rfl, rfl⟩); (rintro _ _ ⟨rfl, rfl⟩); (try refine ⟨SUB, ?_⟩)) | ((with_reducible (first | apply TD_e2z | apply TD_e3z | apply TL_e | apply TD_e2 | apply TD_e3)); ((with_reducible apply ES_append (enc := Cl.enc) (xs := [(⟨k, t, kind, value, 0, i, -1⟩ : Cl)])); exact rfl; exact rfl; exact Lies.blk (by first | ((repeat (first | with_reducible exact List.mem_cons_self | with_reducible apply List.mem_cons_of_mem)); done) | (repeat (first | exact List.Mem.head _ | apply List.Mem.tail))); exact fun _ => rfl; exact fun _ => rfl; (intro A' c'; first | ((repeat (first | with_reducible exact Upd.here _ _ _ | with_reducible apply Upd.there)); done) | (repeat (first | exact Upd.here _ _ _ | apply Upd.there))); (simp; omega); decide; exact rfl); (first | exact rfl | exact ⟨rfl, rfl, rfl⟩); (rintro _ _ ⟨A', c', rfl, rfl⟩); (try refine ⟨SUB, ?_⟩)))
  · exfalso
    have h1 : fitsB ts[t] kind = false := by assumption
    rw [hf] at h1; cases h1
  · exfalso
    have h1 : argB kind value = false := by assumption
    rw [ha] at h1; cases h1
  · (refine At_ret Try.results68 rfl (fun w' hw => ?_))
    have hF : ∀ g ∈ r :: (Value.slice A cs.length d).ownBlock.toList, B ≤ g := by
      intro g hg
      rcases List.mem_cons.1 hg with rfl | hg
      · exact hB
      · exact (World.ownsRow.lt ho g (by simpa using hg)).1
    have hBw : B ≤ w.heap.size := by have := hb.lt; omega
    have hb' := (hw.holds (entBlk r 150 _) (by first | ((repeat (first | with_reducible exact List.mem_cons_self | with_reducible apply List.mem_cons_of_mem)); done) | (repeat (first | exact List.Mem.head _ | apply List.Mem.tail)))).1
    refine ⟨_, rfl, ?_, hw.ownUp hF hBw (by first | ((repeat (first | with_reducible exact List.mem_cons_self | with_reducible apply List.mem_cons_of_mem)); done) | (repeat (first | exact List.Mem.head _ | apply List.Mem.tail))), hw.keeps.upto hF hBw⟩
    have e : (((cs ++ [(⟨k, t, kind, value, 0, i, -1⟩ : Cl)]).length : Nat) : Int) = (cs.length : Int) + 1 := by simp
    rw [← e]
    exact hb'
end Go.Proofs.Ytaonijdhmgcbjaa
