/- Lemmas for the walks (M, F, E, P, Fct, Ifc, Str, R, Row, Hist4). No condition. -/
import Derived.Test.YthecmfhoaneejaaDoorG04
import Derived.Laws.Strings
import Derived.Test.YthecmfhoaneejaaDoorG01
import Derived.RegionTactic
import Derived.StillTailTactics
set_option linter.unusedSimpArgs false
set_option linter.unusedVariables false
set_option linter.unusedSectionVars false
set_option linter.unnecessarySimpa false
namespace Go.Proofs.YthecmfhoaneejaaDoor
open Go.RowKit

def intV (n : Int) : Value := .int .i64 n
def boolV (b : Bool) : Value := .bool b
def rowOfMap {α : Type} (enc : α → Value) (D : List (Int × α)) : List (Value × Value) := D.map fun p => (.int .i64 p.1, enc p.2)
/-- each entry has a stamp of its own, ahead of the clock -/
def BornOk (es : Array MapEntry) (cl : Nat) : Prop := (es.toList.map (·.born)).Nodup ∧ ∀ x ∈ es.toList, x.born < cl
def MapI {α : Type} (enc : α → Value) (w : World) (g : Nat) (D : List (Int × α)) : Prop :=
  ∃ es clock, w.heap[g]? = some (.map es clock) ∧ es.toList.map (fun e => (e.key, e.val)) = rowOfMap enc D ∧ BornOk es clock
theorem born_push {es : Array MapEntry} {cl : Nat} (h : BornOk es cl) (k v : Value) : BornOk (es.push { key := k, val := v, born := cl }) (cl + 1) := by
  refine ⟨?_, fun x hx => ?_⟩
  · rw [Array.toList_push, List.map_append, List.nodup_append]
    refine ⟨h.1, by simp, fun a ha b hb => ?_⟩
    obtain ⟨x, hx, rfl⟩ := List.mem_map.1 ha
    have := h.2 x hx
    simp at hb
    omega
  · rw [Array.toList_push] at hx
    rcases List.mem_append.1 hx with h1 | h1
    · have := h.2 x h1; omega
    · simp at h1; subst h1; exact Nat.lt_succ_self _
theorem born_modify {es : Array MapEntry} {cl : Nat} (h : BornOk es cl) (i : Nat) (f : MapEntry → MapEntry) (hf : ∀ x, (f x).born = x.born) : BornOk (es.modify i f) cl := by
  have e : (es.modify i f).toList.map (·.born) = es.toList.map (·.born) := by
    apply List.ext_getElem?
    intro j
    simp only [Array.toList_modify, List.getElem?_map, List.getElem?_modify]
    by_cases e : i = j
    · subst e; cases es.toList[i]? <;> simp [hf]
    · simp [if_neg e]
  refine ⟨by rw [e]; exact h.1, fun x hx => ?_⟩
  have h1 : x.born ∈ (es.modify i f).toList.map (·.born) := List.mem_map.2 ⟨x, hx, rfl⟩
  rw [e] at h1
  obtain ⟨y, hy, e2⟩ := List.mem_map.1 h1
  rw [← e2]
  exact h.2 y hy
def entMap {α : Type} (enc : α → Value) (g : Nat) (D : List (Int × α)) : Ent :=
  ⟨fun k => some g = some k, [g], fun k => by simp [eq_comm], fun w => MapI enc w g D, fun _ _ h hp => by
    obtain ⟨es, c, h1, h2⟩ := hp
    exact ⟨es, c, (h g rfl).trans h1, h2⟩⟩
/-- what a map holds behind m[k] = v -/
def putM {α : Type} : List (Int × α) → Int → α → List (Int × α)
  | [], k, v => [(k, v)]
  | p :: D, k, v => if k = p.1 then (k, v) :: D else p :: putM D k v
def lookM {α : Type} : List (Int × α) → Int → Option α
  | [], _ => none
  | p :: D, k => if k = p.1 then some p.2 else lookM D k
def findD {α : Type} : List (Int × α) → Int → Nat → Option (Nat × α)
  | [], _, _ => none
  | p :: D, k, i => if k = p.1 then some (i, p.2) else findD D k (i + 1)
theorem findD_look {α : Type} (k : Int) : ∀ (D : List (Int × α)) (i : Nat), (findD D k i).map (·.2) = lookM D k
  | [], _ => rfl
  | p :: D, i => by simp only [findD, lookM]; split <;> simp [findD_look k D]
theorem findD_put {α : Type} (k : Int) (v : α) : ∀ (D : List (Int × α)) (i : Nat), match findD D k i with
    | some (j, _) => i ≤ j ∧ (∃ u, D[j - i]? = some (k, u)) ∧ putM D k v = D.modify (j - i) (fun _ => (k, v))
    | none => putM D k v = D ++ [(k, v)]
  | [], _ => rfl
  | p :: D, i => by
    simp only [findD]
    by_cases h : k = p.1
    · rw [if_pos h]
      refine ⟨Nat.le_refl _, ⟨p.2, by simp [h]⟩, by simp [putM, h]⟩
    · rw [if_neg h]
      have ih := findD_put k v D (i + 1)
      cases hf : findD D k (i + 1) with
      | none => rw [hf] at ih; simp only at ih ⊢; simp [putM, h, ih]
      | some q =>
        rw [hf] at ih
        obtain ⟨j, u⟩ := q
        simp only at ih ⊢
        obtain ⟨h1, ⟨u', h2⟩, h3⟩ := ih
        have e : j - i = (j - (i + 1)) + 1 := by omega
        refine ⟨by omega, ⟨u', by rw [e]; simpa using h2⟩, ?_⟩
        rw [e, List.modify_succ_cons, ← h3]
        simp [putM, h]
theorem findNow_int {α : Type} (enc : α → Value) (x : Int) : ∀ (es : List MapEntry) (D : List (Int × α)) (i : Nat), es.map (fun e => (e.key, e.val)) = rowOfMap enc D →
    Instr.findNow (.int .i64) (.int .i64 x) es i = some ((findD D x i).map fun p => (p.1, enc p.2))
  | [], [], _, _ => rfl
  | [], p :: D, _, h => by simp [rowOfMap] at h
  | e :: es, [], _, h => by simp [rowOfMap] at h
  | e :: es, p :: D, i, h => by
    simp only [rowOfMap, List.map_cons, List.cons.injEq, Prod.mk.injEq] at h
    obtain ⟨⟨h1, h2⟩, h3⟩ := h
    have ih := findNow_int enc x es D (i + 1) h3
    simp only [Instr.findNow, h1, Instr.sameNow, if_true, findD]
    by_cases hx : x = p.1
    · subst hx; simp [h2]
    · have : (x == p.1) = false := by simpa using hx
      rw [this, if_neg hx]
      exact ih
section
variable {P : Program} {C : Ctx} {Q : Exit → Act → World → Prop} {E : Slots} {S S' : List Ent}
variable {d ty ty2 ty3 : Nat} {ps : String} {af : Array Edge} {g0 : Option (Nat × Bool)} {x y m : Operand} {t k e g : Nat} {n : Int}
theorem run_checkKey [hm : MapOf P t k e] (b : Bool) (w : World) : (Instr.checkKey b 10000 k (.int .i64 n)).run P w = .ok () w := by
  unfold Instr.checkKey
  simp [run_underlying hm.key]
theorem run_findKey [hm : MapOf P t k e] {α : Type} (enc : α → Value) (es : List MapEntry) (D : List (Int × α)) (h : es.map (fun e => (e.key, e.val)) = rowOfMap enc D) (w : World) :
    (Instr.findKey k (.int .i64 n) es).run P w = .ok ((findD D n 0).map fun p => (p.1, enc p.2)) w := by
  unfold Instr.findKey
  simp [run_underlying hm.key, findNow_int enc n es D 0 h]
theorem run_lookup [hm : MapOf P t k e] {z : Value} [hz : ZeroOf P e z] {α : Type} {enc : α → Value} {z0 : α} (he : enc z0 = z) {D : List (Int × α)} {w : World} (hD : MapI enc w g D) (ok : Bool) :
    (Instr.lookup t (.map (some g)) (.int .i64 n) ok).run P w = .ok (if ok then .tuple #[enc ((lookM D n).getD z0), .bool (lookM D n).isSome] else enc ((lookM D n).getD z0)) w := by
  obtain ⟨es, cl, hg, hes, hbo⟩ := hD
  have hgo : (getObj g).run P w = .ok (.map es cl) w := by simp [getObj, Sem.run, hg]
  have h1 := run_checkKey (hm := hm) (n := n) es.isEmpty w
  have h2 := run_findKey (hm := hm) (n := n) enc es.toList D hes w
  have h3 := findD_look n D 0
  unfold Instr.lookup
  simp only [run_underlying hm.und, Sem.run_bind, Result.andThen_ok, hgo, Sem.run_pure, h1, h2]
  cases hf : findD D n 0 with
  | none =>
    rw [hf] at h3
    have h3' : lookM D n = none := h3.symm
    simp [hz.run w, h3', he]
  | some p =>
    rw [hf] at h3
    have h3' : lookM D n = some p.2 := h3.symm
    simp [h3']
/-- m[k] = v -/
theorem run_mapUpdate [hm : MapOf P t k e] {α : Type} {enc : α → Value} {D : List (Int × α)} {w : World} (hD : MapI enc w g D) (v : α) :
    ∃ w', (Instr.mapUpdate t (.map (some g)) (.int .i64 n) (enc v)).run P w = .ok () w' ∧ MapI enc w' g (putM D n v) ∧ Keeps [g] w w' := by
  obtain ⟨es, cl, hg, hes, hbo⟩ := hD
  have hlt : g < w.heap.size := (Array.getElem?_eq_some_iff.1 hg).1
  have hgo : (getObj g).run P w = .ok (.map es cl) w := by simp [getObj, Sem.run, hg]
  have h1 := run_checkKey (hm := hm) (n := n) false w
  have h2 := run_findKey (hm := hm) (n := n) enc es.toList D hes w
  have hput := findD_put n v D 0
  have hset : ∀ o : Obj, (setObj g o).run P w = .ok () { w with heap := w.heap.setIfInBounds g o } := fun o => by simp [setObj, Sem.run, hg]
  have hk : ∀ o : Obj, Keeps [g] w { w with heap := w.heap.setIfInBounds g o } := fun o => ⟨rfl, rfl, rfl, by simp, fun j _ hj => by
    simp only [List.mem_singleton] at hj
    exact Array.getElem?_setIfInBounds_ne (fun e => hj e.symm)⟩
  have hget : ∀ o : Obj, ({ w with heap := w.heap.setIfInBounds g o } : World).heap[g]? = some o := fun o => by simp [hlt]
  unfold Instr.mapUpdate
  simp only [run_underlying hm.und, Sem.run_bind, Result.andThen_ok, hgo, h1, h2]
  cases hf : findD D n 0 with
  | none =>
    rw [hf] at hput
    simp only [Option.map_none, hset]
    refine ⟨_, rfl, ⟨_, _, hget _, ?_, born_push hbo _ _⟩, hk _⟩
    rw [show putM D n v = D ++ [(n, v)] from hput]
    simp [rowOfMap] at hes ⊢
    exact hes
  | some p =>
    obtain ⟨i, u⟩ := p
    rw [hf] at hput
    simp only [Nat.sub_zero] at hput
    obtain ⟨_, ⟨u', hu⟩, hp⟩ := hput
    have hi : i < es.size := by
      have h4 := congrArg List.length hes
      have h5 := (List.getElem?_eq_some_iff.1 hu).1
      simp [rowOfMap] at h4
      omega
    have hkey : es[i].key = .int .i64 n := by
      have h6 : (es.toList.map fun e => (e.key, e.val))[i]? = some (es[i].key, es[i].val) := by simp [hi]
      rw [hes] at h6
      simp only [rowOfMap, List.getElem?_map, hu, Option.map_some, Option.some.injEq, Prod.mk.injEq] at h6
      exact h6.1.symm
    have hst : (Instr.keyThatStays (.int .i64 n) (.int .i64 n)).run P w = .ok (.int .i64 n) w := by
      unfold Instr.keyThatStays
      rw [if_pos (by simp [Instr.sameBits])]
      rfl
    simp only [Option.map_some, Array.getElem?_eq_getElem hi, Option.getD_some, hkey, Sem.run_bind, hst, Result.andThen_ok, hset]
    refine ⟨_, rfl, ⟨_, _, hget _, ?_, born_modify hbo _ _ (fun _ => rfl)⟩, hk _⟩
    rw [hp]
    apply List.ext_getElem?
    intro j
    have hj := congrArg (·[j]?) hes
    simp only [rowOfMap, List.getElem?_map] at hj ⊢
    rw [List.getElem?_modify]
    simp only [Array.toList_modify, List.getElem?_modify]
    by_cases e : i = j
    · subst e
      simp only [if_true, hu, Option.map_some]
      have : es.toList[i]? = some es[i] := by simp [hi]
      rw [this]; rfl
    · simp only [if_neg e]
      cases h7 : es.toList[j]? <;> cases h8 : D[j]? <;> rw [h7, h8] at hj <;> simp_all
theorem ES_makeMap {α : Type} (enc : α → Value) (hd : Nat.ble (d + 1) C.n = true) : ES P C E S ⟨some d, .makeMap t none, ty, ps, af, g0⟩ (fun E' S' => ∃ g, E' = (d, .map (some g)) :: E ∧ S' = entMap enc g [] :: S) := by
  refine (ES_core (fun u S' => ∃ g, u = .map (some g) ∧ S' = entMap enc g [] :: S) (fun a w ha hw => ?_) hd).weak (by rintro _ _ ⟨_, ⟨g, rfl, rfl⟩, rfl⟩; exact ⟨g, rfl, rfl⟩)
  refine ⟨_, _, _, ?_, hw.alloc (.map #[] 0) (e := entMap enc w.heap.size []) (fun _ h => h) ⟨#[], 0, heap_alloc_new w _, rfl, by simp [BornOk]⟩, _, rfl, rfl⟩
  simp [execOp, Instr.makeMap, newObj, Sem.run]
theorem ES_makeMapI [MapOf P t k e] [ZeroOf P e (.int .i64 0)] (hd : Nat.ble (d + 1) C.n = true) : ES P C E S ⟨some d, .makeMap t none, ty, ps, af, g0⟩ (fun E' S' => ∃ g, E' = (d, .map (some g)) :: E ∧ S' = entMap intV g [] :: S) := ES_makeMap intV hd
theorem ES_makeMapB [MapOf P t k e] [ZeroOf P e (.bool false)] (hd : Nat.ble (d + 1) C.n = true) : ES P C E S ⟨some d, .makeMap t none, ty, ps, af, g0⟩ (fun E' S' => ∃ g, E' = (d, .map (some g)) :: E ∧ S' = entMap boolV g [] :: S) := ES_makeMap boolV hd
section
variable [hm : MapOf P t k e] (hx : evo E m = some (.map (some g))) (hy : evo E x = some (.int .i64 n))
include hm hx
theorem QS_lenMap {α : Type} {enc : α → Value} {D : List (Int × α)} (hD : entMap enc g D ∈ S) : QS P C E S (.call ⟨.builtin .len, #[m], #[t]⟩) ty (.int .i64 D.length) := QS.of (fun a w ha hw => by
    obtain ⟨es, cl, hg, hes, _⟩ := (hw.holds _ hD).1
    have hgo : (getObj g).run P w = .ok (.map es cl) w := by simp [getObj, Sem.run, hg]
    have hl : es.size = D.length := by
      have := congrArg List.length hes
      simpa [rowOfMap] using this
    have hr : (Builtin.len_ #[t] ty #[.map (some g)]).run P w = .ok (.int .i64 D.length) w := by
      simp [Builtin.len_, run_underlying hm.und, hgo, hl, goInt]
    simp [execOp, resolve, invoke, builtin, ha.evo hx, hr])
include hy
theorem QS_lookI {D : List (Int × Int)} [hz : ZeroOf P e (.int .i64 0)] (hD : entMap intV g D ∈ S) : QS P C E S (.lookup t m x false) ty (.int .i64 ((lookM D n).getD 0)) :=
  QS.of (fun a w ha hw => by
    have h := run_lookup (hm := hm) (n := n) (enc := intV) (z0 := 0) rfl (hw.holds _ hD).1 false
    simp only [execOp, ha.evo hx, ha.evo hy, Sem.run_bind, h, Result.andThen_ok]; rfl)
theorem QS_lookIok {D : List (Int × Int)} [hz : ZeroOf P e (.int .i64 0)] (hD : entMap intV g D ∈ S) : QS P C E S (.lookup t m x true) ty (.tuple #[.int .i64 ((lookM D n).getD 0), .bool (lookM D n).isSome]) :=
  QS.of (fun a w ha hw => by
    have h := run_lookup (hm := hm) (n := n) (enc := intV) (z0 := 0) rfl (hw.holds _ hD).1 true
    simp only [execOp, ha.evo hx, ha.evo hy, Sem.run_bind, h, Result.andThen_ok]; rfl)
theorem QS_lookB {D : List (Int × Bool)} [hz : ZeroOf P e (.bool false)] (hD : entMap boolV g D ∈ S) : QS P C E S (.lookup t m x false) ty (.bool ((lookM D n).getD false)) :=
  QS.of (fun a w ha hw => by
    have h := run_lookup (hm := hm) (n := n) (enc := boolV) (z0 := false) rfl (hw.holds _ hD).1 false
    simp only [execOp, ha.evo hx, ha.evo hy, Sem.run_bind, h, Result.andThen_ok]; rfl)
theorem QS_lookBok {D : List (Int × Bool)} [hz : ZeroOf P e (.bool false)] (hD : entMap boolV g D ∈ S) : QS P C E S (.lookup t m x true) ty (.tuple #[.bool ((lookM D n).getD false), .bool (lookM D n).isSome]) :=
  QS.of (fun a w ha hw => by
    have h := run_lookup (hm := hm) (n := n) (enc := boolV) (z0 := false) rfl (hw.holds _ hD).1 true
    simp only [execOp, ha.evo hx, ha.evo hy, Sem.run_bind, h, Result.andThen_ok]; rfl)
theorem ES_mapUpdate {α : Type} {enc : α → Value} {D : List (Int × α)} {v : α} (hu : Upd S (entMap enc g D) (entMap enc g (putM D n v)) S') (hv : evo E y = some (enc v)) : ES P C E S ⟨none, .mapUpdate t m x y, ty, ps, af, g0⟩ (fun E' T => E' = E ∧ T = S') := by
  refine (ES_skip (fun T => T = S') (fun a w ha hw => ?_)).weak (by rintro _ _ ⟨rfl, rfl⟩; exact ⟨rfl, rfl⟩)
  obtain ⟨w', hr, hD', hk⟩ := run_mapUpdate (hm := hm) (n := n) (hw.holds _ hu.mem).1 v
  refine ⟨w', S', by simp [execOp, ha.evo hx, ha.evo hy, ha.evo hv, hr], ?_, rfl⟩
  refine hw.upd hu hk (by simp [entMap]) (fun k hk' => ?_) hD'
  have : some g = some k := hk'
  cases this
  obtain ⟨es, cl, hg, _⟩ := hD'
  exact ⟨(Array.getElem?_eq_some_iff.1 hg).1, .inl rfl⟩
end
end
end Go.Proofs.YthecmfhoaneejaaDoor

namespace Go.Proofs.YthecmfhoaneejaaDoor
open Go.RowKit

def blks : List Ent → List Nat
  | [] => []
  | e :: S => e.fin ++ blks S
theorem mem_blks {g : Nat} : ∀ {S : List Ent}, g ∈ blks S ↔ ∃ e ∈ S, e.has g
  | [] => by simp [blks]
  | e :: S => by
    have ih := mem_blks (g := g) (S := S)
    rw [blks, List.mem_append, ih, e.hfin]
    simp
section
variable {C : Ctx} {w w' : World} {S S1 S1' R : List Ent}
theorem Mem.anyN (h : Mem C w S) (n : Nat) : Mem ⟨n, C.F, C.w0⟩ w S := ⟨h.keeps, h.holds, h.apart⟩
/-- behind it the rest is as it was -/
theorem Mem.frame {n : Nat} (hw : Mem C w (S1 ++ R)) (ht : Mem ⟨n, blks S1, w⟩ w' S1') : Mem C w' (S1' ++ R) := by
  have hap := List.pairwise_append.1 hw.apart
  have hF : ∀ g ∈ blks S1, g < w.heap.size ∧ (g ∈ C.F ∨ C.w0.heap.size ≤ g) := fun g hg => by
    obtain ⟨e, he, hb⟩ := mem_blks.1 hg
    exact (hw.holds e (by simp [he])).2 g hb
  have hR : ∀ f ∈ R, ∀ g, f.has g → g ∉ blks S1 := fun f hf g hg hm => by
    obtain ⟨e, he, hb⟩ := mem_blks.1 hm
    exact hap.2.2 e he f hf g hb hg
  refine ⟨⟨ht.keeps.os.trans hw.keeps.os, ht.keeps.tape.trans hw.keeps.tape, ht.keeps.output.trans hw.keeps.output, Nat.le_trans hw.keeps.size ht.keeps.size, fun k hk hkF => ?_⟩, fun e he => ?_, ?_⟩
  · refine (ht.keeps.block k (Nat.lt_of_lt_of_le hk hw.keeps.size) fun hm => ?_).trans (hw.keeps.block k hk hkF)
    rcases (hF k hm).2 with h | h
    · exact hkF h
    · omega
  · rcases List.mem_append.1 he with he | he
    · obtain ⟨h1, h2⟩ := ht.holds e he
      refine ⟨h1, fun g hg => ⟨(h2 g hg).1, ?_⟩⟩
      rcases (h2 g hg).2 with h | h
      · exact (hF g h).2
      · exact .inr (Nat.le_trans hw.keeps.size h)
    · obtain ⟨h1, h2⟩ := hw.holds e (by simp [he])
      refine ⟨e.loc w w' (fun g hg => ht.keeps.block g (h2 g hg).1 (hR e he g hg)) h1, fun g hg => ⟨Nat.lt_of_lt_of_le (h2 g hg).1 ht.keeps.size, (h2 g hg).2⟩⟩
  · rw [List.pairwise_append]
    refine ⟨ht.apart, hap.2.1, fun e he f hf g hg hg' => ?_⟩
    rcases ((ht.holds e he).2 g hg).2 with h | h
    · exact hR f hf g hg' h
    · have := ((hw.holds f (by simp [hf])).2 g hg').1
      have h' : w.heap.size ≤ g := h
      omega
end
section
variable {P : Program} {C : Ctx} {Q : Exit → Act → World → Prop} {E : Slots} {S S1 S1' R : List Ent}
variable {d ty : Nat} {ps : String} {af : Array Edge} {g0 : Option (Nat × Bool)} {f : Nat}
/-! function values -/
theorem evs_toArray {a : Act} (ha : Env C.n a E) {xs : List Operand} {vs : List Value} (h : evs E xs = some vs) : xs.toArray.map a.eval = vs.toArray := by
  have := evs_eq ha h
  simp [this]
theorem QS_makeFunc {fn : Fn} {xs ys : List Operand} {vs us : List Value} (hx : evs E xs = some vs) (hy : evs E ys = some us) : QS P C E S (.makeFunc fn xs.toArray ys.toArray) ty (.func fn vs.toArray us.toArray) :=
  QS.of (fun a w ha _ => by
    simp only [execOp, Instr.makeFunc, evs_toArray ha hx, evs_toArray ha hy]; rfl)
end
/-! what is known, in another order -/
inductive Pick : List Ent → Ent → List Ent → Prop
  | here (e : Ent) (S : List Ent) : Pick (e :: S) e S
  | there {S R : List Ent} {e : Ent} (f : Ent) (h : Pick S e R) : Pick (f :: S) e (f :: R)
theorem Pick.form {S R : List Ent} {e : Ent} (h : Pick S e R) : ∃ A B, S = A ++ e :: B ∧ R = A ++ B := by
  induction h with
  | here e S => exact ⟨[], S, rfl, rfl⟩
  | there f _ ih => obtain ⟨A, B, rfl, rfl⟩ := ih; exact ⟨f :: A, B, rfl, rfl⟩
inductive Sel : List Ent → List Ent → Prop
  | nil (S : List Ent) : Sel S []
  | cons {S R T : List Ent} {e : Ent} (h : Pick S e R) (t : Sel R T) : Sel S (e :: T)
section
variable {C : Ctx} {w : World} {S R T' : List Ent} {e : Ent}
theorem Mem.pick (hw : Mem C w S) (h : Pick S e R) : Mem C w (e :: R) := by
  obtain ⟨A, B, rfl, rfl⟩ := h.form
  have hap := hw.apart
  rw [List.pairwise_append, List.pairwise_cons] at hap
  obtain ⟨hA, ⟨hB1, hB⟩, hAB⟩ := hap
  refine ⟨hw.keeps, fun f hf => hw.holds f ?_, ?_⟩
  · rcases List.mem_cons.1 hf with rfl | hf
    · simp
    · rcases List.mem_append.1 hf with h | h <;> simp [h]
  · rw [List.pairwise_cons, List.pairwise_append]
    refine ⟨fun f hf g hg hg' => ?_, hA, hB, fun f hf k hk => hAB f hf k (by simp [hk])⟩
    rcases List.mem_append.1 hf with hf | hf
    · exact hAB f hf e (by simp) g hg' hg
    · exact hB1 f hf g hg hg'
theorem Sel.mem : ∀ {S T : List Ent}, Sel S T → ∀ f ∈ T, f ∈ S
  | _, _, .nil _, f, h => by simp at h
  | _, _, .cons h t, f, hf => by
    obtain ⟨A, B, rfl, rfl⟩ := h.form
    rcases List.mem_cons.1 hf with rfl | hf
    · simp
    · rcases List.mem_append.1 (t.mem f hf) with h | h <;> simp [h]
theorem Mem.sel (hw : Mem C w S) (h : Sel S T') : Mem C w T' := by
  induction h with
  | nil S => exact hw.sub (List.nil_sublist _)
  | @cons S R T e h t ih =>
    have h1 := hw.pick h
    have hap := List.pairwise_cons.1 h1.apart
    have h2 := ih (h1.sub (List.sublist_cons_self _ _))
    refine ⟨h2.keeps, fun f hf => ?_, ?_⟩
    · rcases List.mem_cons.1 hf with rfl | hf
      · exact h1.holds f (by simp)
      · exact h2.holds f hf
    · exact List.pairwise_cons.2 ⟨fun f hf => hap.1 f (t.mem f hf), h2.apart⟩
end
/-! a cut: what is known behind a region, said once -/
def Cut {X : Type} (C : Ctx) (I : X → Slots) (J : X → List Ent) (pre : X → Prop) (a : Act) (w : World) : Prop := ∃ x, pre x ∧ Env C.n a (I x) ∧ Mem C w (J x)
section
variable {P : Program} {C : Ctx} {Q : Exit → Act → World → Prop} {E : Slots} {S : List Ent}
end
end Go.Proofs.YthecmfhoaneejaaDoor

namespace Go.Proofs.YthecmfhoaneejaaDoor
open Go.RowKit

section
variable {P : Program} {C : Ctx} {E : Slots} {S : List Ent}
theorem Lds.auto {s : Nat} {ad : Addr} {v : Value} (h : Lds P C S s ad v := by first | exact Lds.blk (by first | ((repeat (first | with_reducible exact List.mem_cons_self | with_reducible apply List.mem_cons_of_mem)); done) | (repeat (first | exact List.Mem.head _ | apply List.Mem.tail))) (by first | exact relCells_nV _ _ | exact relCells_atV _ _ _ (by omega) | exact rfl) | exact Lds.whole (by first | ((repeat (first | with_reducible exact List.mem_cons_self | with_reducible apply List.mem_cons_of_mem)); done) | (repeat (first | exact List.Mem.head _ | apply List.Mem.tail))) (by first | rfl | exact relCells_size _ _) | exact Lds.rd1 (by assumption) (by first | assumption | (simp; done)) (by first | assumption | omega) rfl | exact Lds.rd0 (by assumption) (by first | assumption | (simp; done)) (by first | assumption | omega) rfl | exact Lds.rd (by assumption) (by first | assumption | (simp; done)) (by first | assumption | omega) rfl | exact Lds.rdAgg (by assumption) (by intro x; rfl) (by first | assumption | (simp; done)) (by first | assumption | omega) | exact Lds.own1 (by first | ((repeat (first | with_reducible exact List.mem_cons_self | with_reducible apply List.mem_cons_of_mem)); done) | (repeat (first | exact List.Mem.head _ | apply List.Mem.tail))) (by intro x; rfl) (by first | assumption | omega) rfl | exact Lds.own0 (by first | ((repeat (first | with_reducible exact List.mem_cons_self | with_reducible apply List.mem_cons_of_mem)); done) | (repeat (first | exact List.Mem.head _ | apply List.Mem.tail))) (by intro x; rfl) (by first | assumption | omega) rfl | exact Lds.own (by first | ((repeat (first | with_reducible exact List.mem_cons_self | with_reducible apply List.mem_cons_of_mem)); done) | (repeat (first | exact List.Mem.head _ | apply List.Mem.tail))) (by intro x; rfl) (by first | assumption | omega) rfl | exact Lds.ownAgg (by first | ((repeat (first | with_reducible exact List.mem_cons_self | with_reducible apply List.mem_cons_of_mem)); done) | (repeat (first | exact List.Mem.head _ | apply List.Mem.tail))) (by intro x; rfl) (by first | assumption | omega) | exact Lds.rdz (by assumption) (by first | assumption | (simp; done)) (by first | assumption | omega) rfl | fail) : Lds P C S s ad v := h
theorem QS.auto {op : Op} {ty : Nat} {v : Value} (h : QS P C E S op ty v := by first | ((with_reducible apply QS_addWW); exact rfl; exact rfl) | ((with_reducible apply QS_move); exact rfl) | ((with_reducible apply QS_assign); exact rfl) | ((with_reducible apply QS_field); exact rfl; (first | exact Nat.add_zero _ | exact Nat.zero_add _ | exact rfl)) | ((with_reducible apply QS_load); exact rfl; exact Lds.auto) | ((with_reducible apply QS_lss); exact rfl; exact rfl) | ((with_reducible apply QS_eql); exact rfl; exact rfl) | ((with_reducible apply QS_neq); exact rfl; exact rfl) | ((with_reducible apply QS_leq); exact rfl; exact rfl) | ((with_reducible apply QS_gtr); exact rfl; exact rfl) | ((with_reducible apply QS_geq); exact rfl; exact rfl) | ((with_reducible apply QS_not); exact rfl) | ((with_reducible apply QS_add); exact rfl; exact rfl; omega; omega) | ((with_reducible apply QS_sub); exact rfl; exact rfl; omega; omega) | ((with_reducible apply QS_mul); exact rfl; exact rfl; omega; omega) | ((with_reducible apply QS_len); exact rfl) | ((with_reducible apply QS_lenArray); exact rfl) | ((with_reducible apply QS_pick_true); exact rfl; (with_reducible exact rfl); exact rfl) | ((with_reducible apply QS_pick_false); exact rfl; (with_reducible exact rfl); exact rfl) | ((with_reducible apply QS_pick_bool); exact rfl; exact rfl; exact rfl) | ((with_reducible apply QS_pick); exact rfl; exact rfl; exact rfl) | ((with_reducible apply QS_index); exact rfl; exact rfl; omega; (first | exact off_z _ _ | exact off_01 _ | exact off_0m _ _ | exact off_o1 _ _ | exact rfl)) | ((with_reducible apply QS_indexA); exact rfl; exact rfl; omega; (first | exact off_z _ _ | exact off_01 _ | exact off_0m _ _ | exact off_o1 _ _ | exact rfl)) | ((with_reducible apply QS_indexL); exact rfl; exact rfl; exact inferInstance; omega; (first | exact off_z _ _ | exact off_01 _ | exact off_0m _ _ | exact off_o1 _ _ | exact rfl)) | ((with_reducible apply QS_indexAL); exact rfl; exact rfl; exact inferInstance; omega; (first | exact off_z _ _ | exact off_01 _ | exact off_0m _ _ | exact off_o1 _ _ | exact rfl)) | ((with_reducible apply QS_indexZ); exact rfl; exact rfl; omega; omega; (first | exact off_z _ _ | exact off_01 _ | exact off_0m _ _ | exact off_o1 _ _ | exact rfl)) | ((with_reducible apply QS_indexAZ); exact rfl; exact rfl; omega; omega; (first | exact off_z _ _ | exact off_01 _ | exact off_0m _ _ | exact off_o1 _ _ | exact rfl)) | ((with_reducible apply QS_extract); exact rfl; exact rfl) | ((with_reducible apply QS_nilCheck); exact rfl) | ((with_reducible apply QS_max); exact rfl; exact rfl) | ((with_reducible apply QS_min); exact rfl; exact rfl) | ((with_reducible apply QS_convert); exact rfl; omega; omega) | ((with_reducible apply QS_buildF); exact rfl; exact rfl; ((repeat (first | exact IsL.nil | apply IsL.cons | exact IsL.refl _)))) | ((with_reducible apply QS_shr16); exact rfl; exact rfl; (first | assumption | omega | decide | exact Nat.lt_of_le_of_lt (Nat.shiftRight_le _ _) (by first | assumption | omega) | (apply_assumption <;> omega))) | ((with_reducible apply QS_and16); exact rfl; exact rfl; (first | assumption | omega | decide | exact Nat.lt_of_le_of_lt (Nat.shiftRight_le _ _) (by first | assumption | omega) | (apply_assumption <;> omega)); (first | assumption | omega | decide | exact Nat.lt_of_le_of_lt (Nat.shiftRight_le _ _) (by first | assumption | omega) | (apply_assumption <;> omega))) | ((with_reducible apply QS_or16); exact rfl; exact rfl; (first | assumption | omega | decide | exact Nat.lt_of_le_of_lt (Nat.shiftRight_le _ _) (by first | assumption | omega) | (apply_assumption <;> omega)); (first | assumption | omega | decide | exact Nat.lt_of_le_of_lt (Nat.shiftRight_le _ _) (by first | assumption | omega) | (apply_assumption <;> omega))) | ((with_reducible apply QS_andNot16); exact rfl; exact rfl; (first | assumption | omega | decide | exact Nat.lt_of_le_of_lt (Nat.shiftRight_le _ _) (by first | assumption | omega) | (apply_assumption <;> omega)); (first | assumption | omega | decide | exact Nat.lt_of_le_of_lt (Nat.shiftRight_le _ _) (by first | assumption | omega) | (apply_assumption <;> omega))) | ((with_reducible apply QS_shl16); exact rfl; exact rfl; omega) | ((with_reducible apply QS_shr64); exact rfl; exact rfl; (first | assumption | omega | decide | exact Nat.lt_of_le_of_lt (Nat.shiftRight_le _ _) (by first | assumption | omega) | (apply_assumption <;> omega))) | ((with_reducible apply QS_and64); exact rfl; exact rfl; (first | assumption | omega | decide | exact Nat.lt_of_le_of_lt (Nat.shiftRight_le _ _) (by first | assumption | omega) | (apply_assumption <;> omega)); (first | assumption | omega | decide | exact Nat.lt_of_le_of_lt (Nat.shiftRight_le _ _) (by first | assumption | omega) | (apply_assumption <;> omega))) | ((with_reducible apply QS_or64); exact rfl; exact rfl; (first | assumption | omega | decide | exact Nat.lt_of_le_of_lt (Nat.shiftRight_le _ _) (by first | assumption | omega) | (apply_assumption <;> omega)); (first | assumption | omega | decide | exact Nat.lt_of_le_of_lt (Nat.shiftRight_le _ _) (by first | assumption | omega) | (apply_assumption <;> omega))) | ((with_reducible apply QS_shl64); exact rfl; exact rfl; omega) | ((with_reducible apply QS_eqlB); exact rfl; exact rfl) | ((with_reducible apply QS_neqB); exact rfl; exact rfl) | ((with_reducible apply QS_sliceLow); exact rfl; exact rfl; (first | assumption | omega)) | ((with_reducible apply QS_eqlNil); exact rfl; exact rfl) | ((with_reducible apply QS_neqNil); exact rfl; exact rfl) | ((with_reducible apply QS_addW); exact rfl; exact rfl) | ((with_reducible apply QS_subW); exact rfl; exact rfl) | ((with_reducible apply QS_mulW); exact rfl; exact rfl) | ((with_reducible apply QS_lookI); exact rfl; exact rfl; (first | ((repeat (first | with_reducible exact List.mem_cons_self | with_reducible apply List.mem_cons_of_mem)); done) | (repeat (first | exact List.Mem.head _ | apply List.Mem.tail)))) | ((with_reducible apply QS_lookIok); exact rfl; exact rfl; (first | ((repeat (first | with_reducible exact List.mem_cons_self | with_reducible apply List.mem_cons_of_mem)); done) | (repeat (first | exact List.Mem.head _ | apply List.Mem.tail)))) | ((with_reducible apply QS_lookB); exact rfl; exact rfl; (first | ((repeat (first | with_reducible exact List.mem_cons_self | with_reducible apply List.mem_cons_of_mem)); done) | (repeat (first | exact List.Mem.head _ | apply List.Mem.tail)))) | ((with_reducible apply QS_lookBok); exact rfl; exact rfl; (first | ((repeat (first | with_reducible exact List.mem_cons_self | with_reducible apply List.mem_cons_of_mem)); done) | (repeat (first | exact List.Mem.head _ | apply List.Mem.tail)))) | ((with_reducible apply QS_lenMap); exact rfl; (first | ((repeat (first | with_reducible exact List.mem_cons_self | with_reducible apply List.mem_cons_of_mem)); done) | (repeat (first | exact List.Mem.head _ | apply List.Mem.tail)))) | ((with_reducible apply QS_makeFunc); exact rfl; exact rfl) | fail) : QS P C E S op ty v := h
theorem ES.auto {o : Oper} {N : Slots → List Ent → Prop} (h : ES P C E S o N := by first | ((with_reducible apply ES_alloc); (first | exact cells_agg _ | exact cellsL (by (repeat (first | exact IsL.nil | apply IsL.cons | exact IsL.refl _))) | exact rfl); exact rfl) | ((with_reducible apply ES_box); exact rfl; (first | exact cells_agg _ | exact cellsL (by (repeat (first | exact IsL.nil | apply IsL.cons | exact IsL.refl _))) | exact rfl); exact rfl) | ((with_reducible apply ES_buildSliceF); exact rfl; exact rfl; exact rfl; exact rfl; exact rfl; ((repeat (first | exact IsL.nil | apply IsL.cons | exact IsL.refl _))); exact rfl) | ((with_reducible apply ES_storeWhole); exact rfl; exact rfl; (first | ((repeat (first | with_reducible exact Upd.here _ _ _ | with_reducible apply Upd.there)); done) | (repeat (first | exact Upd.here _ _ _ | apply Upd.there))); (first | exact rfl | exact relCells_size _ _); (first | exact rfl | exact relCells_size _ _); (first | exact rfl | exact relCells_onesL _ _)) | ((with_reducible apply ES_store); exact rfl; exact rfl; (first | ((repeat (first | with_reducible exact Upd.here _ _ _ | with_reducible apply Upd.there)); done) | (repeat (first | exact Upd.here _ _ _ | apply Upd.there))); (first | exact relCells_set _ _ _ _ (by omega) | exact arrSet (by (repeat (first | exact IsL.nil | apply IsL.cons | exact IsL.refl _))) | rfl); (first | (simp only [relCells_size, List.size_toArray, List.length_cons, List.length_nil]; omega) | (simp [relCells_size]; done) | (simp [relCells_size]; omega)); exact rfl) | ((with_reducible apply ES_storeOwn1); exact rfl; exact rfl; (first | ((repeat (first | with_reducible exact Upd.here _ _ _ | with_reducible apply Upd.there)); done) | (repeat (first | exact Upd.here _ _ _ | apply Upd.there))); exact fun _ => rfl; (first | exact List.getElem?_set_self (by first | assumption | omega) | exact List.getElem?_eq_getElem (by first | assumption | omega | (simp only [List.length_set]; omega))); (first | exact rfl  ); exact rfl) | ((with_reducible apply ES_storeOwn0); exact rfl; exact rfl; (first | ((repeat (first | with_reducible exact Upd.here _ _ _ | with_reducible apply Upd.there)); done) | (repeat (first | exact Upd.here _ _ _ | apply Upd.there))); exact fun _ => rfl; (first | exact List.getElem?_set_self (by first | assumption | omega) | exact List.getElem?_eq_getElem (by first | assumption | omega | (simp only [List.length_set]; omega))); decide; (first | exact rfl  ); exact rfl) | ((with_reducible apply ES_storeOwn); exact rfl; exact rfl; (first | ((repeat (first | with_reducible exact Upd.here _ _ _ | with_reducible apply Upd.there)); done) | (repeat (first | exact Upd.here _ _ _ | apply Upd.there))); exact fun _ => rfl; (first | exact List.getElem?_set_self (by first | assumption | omega) | exact List.getElem?_eq_getElem (by first | assumption | omega | (simp only [List.length_set]; omega))); decide; (first | exact rfl  ); exact rfl) | ((with_reducible apply ES_makeSlice (enc := intEnc) (z0 := 0)); exact rfl; exact rfl; exact rfl; (first | omega | (simp; omega)); decide; exact rfl) | ((with_reducible apply ES_makeSlice (enc := boolEnc) (z0 := false)); exact rfl; exact rfl; exact rfl; (first | omega | (simp; omega)); decide; exact rfl) | ((with_reducible apply ES_makeMapI); exact rfl) | ((with_reducible apply ES_makeMapB); exact rfl) | ((with_reducible apply ES_mapUpdate); exact rfl; exact rfl; (first | ((repeat (first | with_reducible exact Upd.here _ _ _ | with_reducible apply Upd.there)); done) | (repeat (first | exact Upd.here _ _ _ | apply Upd.there))); exact rfl) | fail) : ES P C E S o N := h
/-- what a step leaves to be shown -/
structure Rest (R : Prop) : Prop where
  out : R
/-! one step of a walk: what is left to be shown is the step's own to find -/
theorem GO {p R : Prop} (r : R) (h : Rest R → p := by intro r; first | ((with_reducible (first | apply T_seq | apply T_region | apply TL_nil | apply At_then | apply T_block | apply At_block | apply T_skip | apply T_exit | apply At_then_exit | apply At_block_exit | apply T_ret | apply At_then_ret | apply At_block_ret | apply TD_nil)); exact r.out) | ((with_reducible apply At_block_past); exact rfl; exact r.out) | ((with_reducible apply TL_q); exact QS.auto; exact rfl; exact r.out) | ((with_reducible apply TL_yes); exact rfl; exact rfl; (with_reducible exact rfl); exact r.out) | ((with_reducible apply TL_no); exact rfl; exact rfl; (first | with_reducible exact Bool.not_true.symm | with_reducible exact Bool.not_false.symm); exact rfl; exact r.out) | ((with_reducible apply TL_no_undef); exact rfl; exact rfl; exact rfl; exact r.out)) : p := h ⟨r⟩
theorem GOE {p R : Prop} (r : R) (h : Rest R → p := by intro r; (with_reducible apply TL_e); exact ES.auto; exact rfl; exact r.out) : p := h ⟨r⟩
theorem GO2 {p R T : Prop} (r : R) (s : T) (h : Rest R → Rest T → p := by intro r s; first | ((with_reducible apply T_cond); exact rfl; exact r.out; exact s.out) | ((with_reducible (first | apply TL_guard | apply TD_guard)); exact rfl; exact rfl; (fail_if_success (with_reducible refine imp_lit1 ?_)); (fail_if_success (with_reducible refine imp_lit0)); exact r.out; exact s.out)) : p := h ⟨r⟩ ⟨s⟩
theorem GG {p R : Prop} (r : R) (h : Rest R → p := by intro r; first | ((with_reducible (first | apply TD_q0 | apply TD_q1 | apply TD_q2 | apply TD_q3)); exact QS.auto; exact rfl; exact r.out) | ((with_reducible (first | apply TD_q0y | apply TD_q1y)); exact rfl; exact rfl; (with_reducible exact rfl); exact QS.auto; exact rfl; exact r.out) | ((with_reducible apply TL_q); exact QS.auto; exact rfl; exact r.out) | ((with_reducible (first | apply T_seq | apply T_region | apply TL_nil | apply At_then | apply T_block | apply At_block | apply T_skip | apply T_exit | apply At_then_exit | apply At_block_exit | apply T_ret | apply At_then_ret | apply At_block_ret | apply TD_nil)); exact r.out) | ((with_reducible apply At_block_past); exact rfl; exact r.out) | ((with_reducible apply TD_no); exact rfl; exact rfl; exact rfl; (first | with_reducible exact Bool.not_true.symm | with_reducible exact Bool.not_false.symm); exact rfl; exact r.out) | ((with_reducible apply TD_eno); exact rfl; exact rfl; exact rfl; (first | with_reducible exact Bool.not_true.symm | with_reducible exact Bool.not_false.symm); exact rfl; exact r.out) | ((with_reducible apply TD_noU); exact rfl; exact rfl; exact rfl; exact rfl; exact r.out) | ((with_reducible apply TD_enoU); exact rfl; exact rfl; exact rfl; exact rfl; exact r.out) | ((with_reducible apply TL_yes); exact rfl; exact rfl; (with_reducible exact rfl); exact r.out) | ((with_reducible apply TL_no); exact rfl; exact rfl; (first | with_reducible exact Bool.not_true.symm | with_reducible exact Bool.not_false.symm); exact rfl; exact r.out) | ((with_reducible apply TL_no_undef); exact rfl; exact rfl; exact rfl; exact r.out)) : p := h ⟨r⟩
theorem GE {p R : Prop} (r : R) (h : Rest R → p := by intro r; first | ((with_reducible (first | apply TD_e2 | apply TD_e3)); exact ES.auto; exact rfl; exact r.out) | ((with_reducible apply TL_e); exact ES.auto; exact rfl; exact r.out) | ((with_reducible (first | apply TD_e2y | apply TD_e3y)); exact rfl; exact rfl; (with_reducible exact rfl); exact ES.auto; exact r.out)) : p := h ⟨r⟩
theorem GOF {p R T : Prop} (r : R) (s : T) (h : Rest R → Rest T → p := by (intro r s; (with_reducible apply TD_fork); exact r.out; exact s.out)) : p := h ⟨r⟩ ⟨s⟩
end
theorem SUB {A B : List Ent} (h : A.Sublist B := by (repeat (first | with_reducible exact List.nil_sublist _ | with_reducible exact List.Sublist.refl _ | with_reducible apply List.Sublist.cons_cons | with_reducible apply List.Sublist.cons))) : A.Sublist B := h
theorem SUBS {C : Ctx} {S S' : List Ent} (h : ∀ w, Mem C w S → Mem C w S' := by (intro w hw; exact hw.sub (by first | ((repeat (first | with_reducible exact List.nil_sublist _ | with_reducible exact List.Sublist.refl _ | with_reducible apply List.Sublist.cons_cons | with_reducible apply List.Sublist.cons)); done) | (repeat (first | exact List.nil_sublist _ | exact List.Sublist.refl _ | apply List.Sublist.cons_cons | apply List.Sublist.cons))))) : ∀ w, Mem C w S → Mem C w S' := h
section
variable {P : Program} {C : Ctx} {Q : Exit → Act → World → Prop} {e : Nat} {S0 S : List Ent} {E : Slots} {l : List Oper} {t : Tr} {ty i j k : Nat} {ps : String} {af : Array Edge} {op : Op} {b want : Bool}
theorem TD_e2z {dst : Option Tmp} {N : Slots → List Ent → Prop} (he : ES P C E S ⟨dst, op, ty, ps, af, some (j, want)⟩ N) (hg : dstAt l j = some k ∧ look k E = some (.bool b) ∧ b = want)
    (h : ∀ E' S', N E' S' → S0.Sublist S' ∧ TD P C l Q e S0 t E' S') : TD P C l Q e S0 (.step 2 i ⟨dst, op, ty, ps, af, some (j, want)⟩ t) E S := TD_e2y hg.1 hg.2.1 hg.2.2 he h
theorem TD_e3z {dst : Option Tmp} {N : Slots → List Ent → Prop} (he : ES P C E S ⟨dst, op, ty, ps, af, some (j, want)⟩ N) (hg : dstAt l j = some k ∧ look k E = some (.bool b) ∧ b = want)
    (h : ∀ E' S', N E' S' → TD P C l Q e S0 t E' S') : TD P C l Q e S0 (.step 3 i ⟨dst, op, ty, ps, af, some (j, want)⟩ t) E S := TD_e3y hg.1 hg.2.1 hg.2.2 he h
end
end Go.Proofs.YthecmfhoaneejaaDoor

namespace Go.Proofs.YthecmfhoaneejaaDoor
open Go.RowKit

/-- S holds what S1 says, in any order; R is left -/
inductive Pull : List Ent → List Ent → List Ent → Prop
  | nil (S : List Ent) : Pull S [] S
  | cons {S R T R' : List Ent} {e : Ent} (h : Pick S e R) (t : Pull R T R') : Pull S (e :: T) R'
theorem Pull.mem : ∀ {S T R : List Ent}, Pull S T R → ∀ f, f ∈ T ++ R ↔ f ∈ S
  | _, _, _, .nil _, f => by simp
  | _, _, _, .cons h t, f => by
    obtain ⟨A, B, rfl, rfl⟩ := h.form
    have := t.mem f
    rw [List.cons_append, List.mem_cons, this]
    simp only [List.mem_append, List.mem_cons]
    constructor
    · rintro (h | h | h)
      · exact .inr (.inl h)
      · exact .inl h
      · exact .inr (.inr h)
    · rintro (h | h | h)
      · exact .inr (.inl h)
      · exact .inl h
      · exact .inr (.inr h)
section
variable {C : Ctx} {w : World} {S T R : List Ent}
theorem Mem.pull (hw : Mem C w S) (h : Pull S T R) : Mem C w (T ++ R) := by
  induction h with
  | nil S => exact hw
  | @cons S R T R' e h t ih =>
    have h1 := hw.pick h
    have hap := List.pairwise_cons.1 h1.apart
    have h2 := ih (h1.sub (List.sublist_cons_self _ _))
    refine ⟨h2.keeps, fun f hf => ?_, ?_⟩
    · rcases List.mem_cons.1 hf with rfl | hf
      · exact h1.holds f (by simp)
      · exact h2.holds f hf
    · exact List.pairwise_cons.2 ⟨fun f hf => hap.1 f ((t.mem f).1 hf), h2.apart⟩
end
/-- one list behind the other, laid flat -/
inductive AppL : List Ent → List Ent → List Ent → Prop
  | nil (R : List Ent) : AppL [] R R
  | cons {T R S2 : List Ent} (e : Ent) (h : AppL T R S2) : AppL (e :: T) R (e :: S2)
theorem AppL.eq {T R S2 : List Ent} (h : AppL T R S2) : T ++ R = S2 := by
  induction h with
  | nil R => rfl
  | cons e _ ih => rw [List.cons_append, ih]
section
variable {P : Program} {C : Ctx} {Q : Exit → Act → World → Prop} {E : Slots} {S S1 S1' R S2 : List Ent}
variable {d ty : Nat} {ps : String} {af : Array Edge} {g0 : Option (Nat × Bool)} {f : Nat}
end
end Go.Proofs.YthecmfhoaneejaaDoor

namespace Go.Proofs.YthecmfhoaneejaaDoor
open Go.RowKit

theorem Own.facts {α : Type} {enc : α → List Value} {M e : Nat} {w : World} {B n c : Nat} {A : Option Addr} {ls : List α} (h : Own enc M e w B (.slice A n c) ls) : ls.length ≤ c ∧ (A = none → c = 0) := by
  rcases h.2 with ⟨hv, h0⟩ | ⟨g, cap, cur, hv, _, _, hn, _⟩
  · simp only [Value.slice.injEq] at hv
    obtain ⟨rfl, -, rfl⟩ := hv
    exact ⟨by omega, fun _ => rfl⟩
  · simp only [Value.slice.injEq] at hv
    obtain ⟨rfl, -, rfl⟩ := hv
    exact ⟨hn, fun h => by cases h⟩
theorem T_fact {P : Program} {C : Ctx} {Q : Exit → Act → World → Prop} {E : Slots} {S : List Ent} {code : Code} {p : Prop} (hS : ∀ w, Mem C w S → p) (h : p → T P C code Q E S) : T P C code Q E S :=
  ⟨fun a w ha hw => (h (hS w hw)).run a w ha hw⟩
theorem Mem.ownFacts {α : Type} {enc : α → List Value} {M et c : Nat} {A : Option Addr} {ls : List α} {C : Ctx} {S : List Ent} {w : World} (hw : Mem C w S) (hm : entOwn enc M et A c ls ∈ S) : ls.length ≤ c ∧ (A = Option.none → c = 0) :=
  Own.facts (show Own enc M et w 0 (.slice A ls.length c) ls from (hw.holds _ hm).1)
theorem Mem.ofOwn {α : Type} {enc : α → List Value} {M et : Nat} {ls : List α} {A : Option Addr} {c : Nat} {w w' : World} (hb : Below w.heap.size w w') (ho : Own enc M et w' w.heap.size (.slice A ls.length c) ls) : Mem ⟨0, [], w⟩ w' [entOwn enc M et A c ls] :=
  (Mem.nil ⟨0, [], w⟩).fresh (e := entOwn enc M et A c ls) hb (fun g hg => World.ownsRow.lt ho g hg) ho.base
end Go.Proofs.YthecmfhoaneejaaDoor

namespace Go.Proofs.YthecmfhoaneejaaDoor
open Go.RowKit

/-- an interface type -/
class IfaceT (P : Program) (t : Nat) : Prop where
  und : ∃ ms, P.underlying t = some (.interface ms)
section
variable {P : Program} {C : Ctx} {Q : Exit → Act → World → Prop} {E : Slots} {S S1 R S2 : List Ent}
variable {d ty ty2 ty3 t : Nat} {ps : String} {af : Array Edge} {g0 : Option (Nat × Bool)} {f : Nat} {x y : Operand} {v r : Value}
theorem run_equal_ifaceNil [h : IfaceT P t] (u : Nat) (v : Value) (w : World) : (Op.equal t (.iface u v) .nilIface).run P w = .ok false w := by
  obtain ⟨ms, h⟩ := h.und
  unfold Op.equal Op.maxDepth Op.equalIn
  simp [run_underlying h]
theorem run_equal_nilNil [h : IfaceT P t] (w : World) : (Op.equal t .nilIface .nilIface).run P w = .ok true w := by
  obtain ⟨ms, h⟩ := h.und
  unfold Op.equal Op.maxDepth Op.equalIn
  simp [run_underlying h]
theorem QS_ifaceSome [IfaceT P t] {u : Nat} (hx : evo E x = some (.iface u v)) (hy : evo E y = some .nilIface) : QS P C E S (.binOp .eql t x y ty3) ty (.bool false) :=
  QS.of (fun a w ha _ => by
    unfold execOp
    simp only [ha.evo hx, ha.evo hy]
    have hg : (eqGuard .eql t x y (.iface u v) .nilIface).run P w = .ok () w := rfl
    have hb : (binOp .eql t (.iface u v) .nilIface).run P w = .ok (.bool false) w := by
      unfold binOp; simp [run_equal_ifaceNil]
    simp only [Sem.run_bind, hg, Result.andThen_ok, hb]; rfl)
theorem QS_ifaceNil [IfaceT P t] {z : Value} (hx : evo E x = some .nilIface) (hz : z = .nilIface) : QS P C E S (.binOp .eql t x (.const z) ty3) ty (.bool true) :=
  QS.of (fun a w ha _ => by
    subst hz
    unfold execOp
    simp only [ha.evo hx]
    have hg : (eqGuard .eql t x (.const .nilIface) .nilIface .nilIface).run P w = .ok () w := by
      unfold eqGuard
      cases x <;> rfl
    have hb : (binOp .eql t .nilIface .nilIface).run P w = .ok (.bool true) w := by
      unfold binOp; simp [run_equal_nilNil]
    simp only [Act.eval, Sem.run_bind, hg, Result.andThen_ok, hb]; rfl)
/-- a call that turns what it is handed, to something of some shape -/
theorem ES_callX [hf : IsFn P f] {X : Type} {xs : List Operand} {vs : List Value} {ats : Array TypeId} (z : X → Value) (S1' : X → List Ent) {S2 : X → List Ent} (hx : evs E xs = some vs)
    (hS : Pull S S1 R) (hA : ∀ x, AppL (S1' x) R (S2 x))
    (hc : ∀ w, Mem C w (S1 ++ R) → Calls P f vs.toArray w fun e w' => ∃ x, e = .returned (z x) ∧ Mem ⟨0, blks S1, w⟩ w' (S1' x)) (hd : Nat.ble (d + 1) C.n = true) :
    ES P C E S ⟨some d, .call ⟨.value (.func f), xs.toArray, ats⟩, ty, ps, af, g0⟩ (fun E' S' => ∃ x, E' = (d, z x) :: E ∧ S' = S2 x) :=
  (ES_call (fun u T => ∃ x, u = z x ∧ T = S2 x) hx (fun w hw => (hc w (hw.pull hS)).mono fun e w' ⟨x, he, hb⟩ => ⟨z x, _, he, (hw.pull hS).frame hb, x, rfl, (hA x).eq⟩) hd).weak
    (by rintro _ _ ⟨_, ⟨x, rfl, rfl⟩, rfl⟩; exact ⟨x, rfl, rfl⟩)
end
/-! Structs without a cell -/
section
variable {P : Program} {C : Ctx} {E : Slots} {S : List Ent} {ty g t s f : Nat} {x : Operand} {cs : Array Value}
theorem Lds.zero [hs : AggOf P s 0] (ad : Addr) : Lds P C S s ad (.agg #[]) := fun w hw => by
  have : (loadCells ad 0).run P w = .ok #[] w := rfl
  simp [loadVar, hs.agg w, hs.size w, this]
end
end Go.Proofs.YthecmfhoaneejaaDoor

namespace Go.Proofs.YthecmfhoaneejaaDoor
open Go.RowKit

section
variable {P : Program} {C : Ctx} {E : Slots} {S S' : List Ent}
variable {d ty ty2 ty3 : Nat} {ps : String} {af : Array Edge} {g0 : Option (Nat × Bool)} {x y m : Operand} {t k e g : Nat} {n : Int} {a b : ByteArray}
theorem QS_eqlStr {r : Bool} (hx : evo E x = some (.string a)) (hy : evo E y = some (.string b)) (h : (a.data.toList == b.data.toList) = r) : QS P C E S (.binOp .eql ty2 x y ty3) ty (.bool r) :=
  QS.of (fun ac w ha _ => by
    unfold execOp
    simp only [ha.evo hx, ha.evo hy]
    have hg : (eqGuard .eql ty2 x y (.string a) (.string b)).run P w = .ok () w := rfl
    have hb : (binOp .eql ty2 (.string a) (.string b)).run P w = .ok (.bool r) w := by
      rw [binOp_string_eql, ByteArray.toList_eq, ByteArray.toList_eq, h]; rfl
    simp only [Sem.run_bind, hg, Result.andThen_ok, hb]; rfl)
theorem QS_rem {i j : Int} (hx : evo E x = some (.int .i64 i)) (hy : evo E y = some (.int .i64 j)) (hi : 0 ≤ i) (hj : 0 < j) : QS P C E S (.binOp .rem ty2 x y ty3) ty (.int .i64 (i % j)) :=
  QS.of (fun a w ha _ => binInt ha hx hy _ (by simp [binOp, Op.intDiv, show ¬ j = 0 by omega, Int.tmod_eq_emod_of_nonneg hi]))
end
end Go.Proofs.YthecmfhoaneejaaDoor

namespace Go.Proofs.YthecmfhoaneejaaDoor
open Go.RowKit

/-- a header: where a row lies -/
structure Hd where
  a : Option Addr
  n : Nat
  c : Nat
def Hd.v (h : Hd) : Value := .slice h.a h.n h.c
theorem Own.same {α : Type} {enc : α → List Value} {M e : Nat} {w w' : World} {v : Value} {l : List α} (h : ∀ g, v.ownBlock = some g → w'.heap[g]? = w.heap[g]?) (hp : Own enc M e w 0 v l) : Own enc M e w' 0 v l := by
  refine ⟨hp.1, ?_⟩
  rcases hp.2 with hn | ⟨g, cap, cur, hv, hbb, hg, rest⟩
  · exact .inl hn
  · refine .inr ⟨g, cap, cur, hv, hbb, (h g ?_).trans hg, rest⟩
    rw [hv]; rfl
section
variable {C : Ctx} {w w' : World} {S S1 S' : List Ent} {α : Type} {enc : α → List Value} {M e : Nat} {hs : List Hd} {rows : List (List α)} {l : List α} {A : Option Addr} {c : Nat}
end
section
variable {P : Program} {C : Ctx} {E : Slots} {S : List Ent} {f d ty : Nat} {ps : String} {af : Array Edge} {g0 : Option (Nat × Bool)} {α : Type} {enc : α → List Value} {M e e2 : Nat} {rows : List (List α)}
end
end Go.Proofs.YthecmfhoaneejaaDoor

namespace Go.Proofs.YthecmfhoaneejaaDoor
open Go.RowKit

theorem TL_fact {P : Program} {C : Ctx} {Q : Exit → Act → World → Prop} {E : Slots} {S : List Ent} {l rest : List Oper} {p : Prop} (hS : ∀ w, Mem C w S → p) (h : p → TL P C l Q rest E S) : TL P C l Q rest E S :=
  ⟨fun a w ha hw => (h (hS w hw)).run a w ha hw⟩
def hd0 : Hd := ⟨none, 0, 0⟩
section
variable {C : Ctx} {w : World} {S S1 S' : List Ent} {α : Type} {enc : α → List Value} {M e : Nat} {hs : List Hd} {rows : List (List α)} {l : List α} {A : Option Addr} {c j : Nat}
end
end Go.Proofs.YthecmfhoaneejaaDoor

namespace Go.Proofs.YthecmfhoaneejaaDoor
open Go.RowKit

theorem rdCells_set (t v : Value) (op : Nat → Int) (k : Nat) (hk : k < 8) (z : Int) : (rdCells t v op).setIfInBounds (2 + k) (.int .i64 z) = rdCells t v (upz op k z) := by
  have := ints_set op 8 k z
  unfold ints at this
  apply Array.ext_getElem?
  intro j
  rw [Array.getElem?_setIfInBounds]
  match j with
  | 0 => simp [rdCells]
  | 1 => simp [rdCells]; omega
  | j + 2 =>
    have h := congrArg (fun a : Array Value => a[j]?) this
    simp only [Array.getElem?_setIfInBounds, List.getElem?_toArray, List.size_toArray, List.length_map, List.length_range] at h
    simp only [rdCells, List.getElem?_toArray, List.getElem?_cons_succ, List.size_toArray, List.length_cons, List.length_map, List.length_range]
    rw [← h]
    by_cases e : k = j
    · subst e; simp [hk, Nat.add_comm 2 k]
    · have : ¬ 2 + k = j + 2 := by omega
      simp [e, this]
theorem rdCells_setv (t v u : Value) (op : Nat → Int) : (rdCells t v op).setIfInBounds 1 u = rdCells t u op := by
  apply Array.ext_getElem?
  intro j
  rw [Array.getElem?_setIfInBounds]
  match j with
  | 0 => simp [rdCells]
  | 1 => simp [rdCells]
  | j + 2 => simp [rdCells]

set_option maxHeartbeats 4000000 in
theorem event_end_ok (r : Nat) (T : Option Addr) (c : Nat) (ts : List Int) (v : Value) (op : Nat → Int) (i : Int) (k t : Nat) (value : Int) (w : World) (hl : ts.length ≤ 9223372036854775807) (hk : k < 8) (ht : t < ts.length)
    (hb : Blk w r 69 (rdCells (.slice T ts.length c) v op)) (B : Nat) (hB : B ≤ r) (cs : List Cl) (hcs : cs.length ≤ 1000) (ho : OwnCl w B v cs) (m : Nat) (hm : m < cs.length) (hop : op k = (m : Int) + 1)
    (hth : cs[m].thing = t) (hr : resB cs[m].kind value = true) :
    Calls Tryd.prog 31 #[.pointer (some ⟨r, 0, none⟩), .int .i64 i, .agg (Ev.enc ⟨k, t, 0, value⟩).toArray] w fun e w' => e = .returned (.int .i64 0) ∧
      Blk w' r 69 (rdCells (.slice T ts.length c) v (upz op k 0)) ∧ OwnCl w' B v (cs.set m { cs[m] with res := value, to := i }) ∧ Below B w w' := by
  simp only [evCells]
  have c0 := (hb.cell 0).trans (rdCells_0 _ _ _)
  have c2 := (hb.cell (2 + k)).trans (rdCells_at _ _ _ k hk)
  have l0 := hb.lt
  have hk0 : (0 : Int) ≤ k := by omega
  have hk8 : (k : Int) < 8 := by omega
  have ht0 : (0 : Int) ≤ t := by omega
  have ht8 : (t : Int) < ts.length := by omega
  have d1 : decide ((k : Int) < 0) = false := by simp
  have d2 : decide ((8 : Int) ≤ k) = false := by simp; omega
  have d3 : decide ((t : Int) < 0) = false := by simp
  have d4 : decide ((ts.length : Int) ≤ t) = false := by simp; omega
  have c1 := (hb.cell 1).trans (rdCells_1 _ _ _)
  have f2 := hb.frozen (2 + k)
  have hne := ho.ne hb (by decide)
  obtain ⟨g, cc, hv, hgB, hg, hc, hfz⟩ := ho.at_ Cl.len m hm
  have e1 := hc 1 _ rfl
  have e2 := hc 2 _ rfl
  have e4 := hc 4 _ rfl
  have e6 := hc 6 _ rfl
  have z4 := hfz (m * 7 + 4)
  have z6 := hfz (m * 7 + 6)
  have hgr : g ≠ r := by subst hv; simpa [Value.ownBlock] using hne
  rw [hv] at c1
  rw [hop] at c2
  rw [hth] at e1
  have hm1 : (m : Int) < (cs.length : Int) := by omega
  have hm2 : (cs.length : Int) ≤ 1000 := by omega
  have hm3 : (m : Int) + 1 ≠ 0 := by omega
  have hm4 : ((m : Int) + 1 == 0) = false := by simpa using hm3
  have d5 : (((t : Int) : Int) != t) = false := by simp
  have Hf := Lib.hid (And.intro hb (And.intro ho hne))
  have Hset : ∀ W, Own Cl.enc 7 58 W B v cs → Own Cl.enc 7 58 ((W.setCell ⟨g, m * 7 + 4, none⟩ (.int .i64 value)).setCell ⟨g, m * 7 + 6, none⟩ (.int .i64 i)) B v (cs.set m { cs[m] with res := value, to := i }) := by
    intro W h
    have h1 := h.set_ Cl.len m hm 4 (by omega) (.int .i64 value) { cs[m] with res := value } rfl hv
    have h2 := h1.set_ Cl.len m (by simpa using hm) 6 (by omega) (.int .i64 i) { cs[m] with res := value, to := i } (by simp [Cl.enc]) (by simpa using hv)
    simpa using h2
  have HH := Lib.hid Hset
  clear hb ho hc hfz hop hne hv Hset
  go_enter Tryd.func31, Tryd.ntmps31
  go_wp2_with (fail)
  go_quiet (fail)
  go_wp2_with (fail)
  go_quiet (fail)
  go_wp2_with (fail)
  go_quiet (first | (go_at_call 47; (first | exact Calls.quiet_of_same (result_is (by assumption) _) | exact Calls.quiet_same (result_is (by assumption) _))))
  go_wp2_with (fail)
  have hgr' : r ≠ g := fun e => hgr e.symm
  have hgw : g ≠ w.heap.size := by omega
  have hgw' : w.heap.size ≠ g := by omega
  have hrw : r ≠ w.heap.size := by omega
  · go_region
    go_wp2_with (fail)
    go_ret
    refine ⟨rfl, ?_, ?_, ?_⟩
    · rw [← rdCells_set _ _ _ _ hk]
      exact (((((Hf.out.1.alloc _).drewN _).far hgr' _).far hgr' _).set_ _ _)
    · exact Own.far (HH.out _ (Own.drewN (Own.alloc Hf.out.2.1 _) _)) (p := ⟨r, 2 + k, none⟩) Hf.out.2.2 _
    · (repeat (first | assumption | exact Below.refl _ _ | refine Below.drew ?_ | refine below_drewN' ?_ _ | refine Below.alloc ?_ (by first | omega | (simp; done) | (simp; omega)) _ | refine Below.setCell ?_ (by first | omega | (simp; done) | (simp; omega)) _))
end Go.Proofs.YthecmfhoaneejaaDoor
