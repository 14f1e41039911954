/- Maps whose keys are ints: what is known of them, and their rules. No condition. -/
import Derived.Test.YtppicbdaijiifaaT7
set_option linter.unusedSimpArgs false
set_option linter.unusedVariables false
set_option linter.unusedSectionVars false
set_option linter.unnecessarySimpa false
namespace Go.Proofs.Ytppicbdaijiifaa
open Go.RowKit

def intV (n : Int) : Value := .int .i64 n
def boolV (b : Bool) : Value := .bool b
def rowOfMap {α : Type} (enc : α → Value) (D : List (Int × α)) : List (Value × Value) := D.map fun p => (.int .i64 p.1, enc p.2)
def MapI {α : Type} (enc : α → Value) (w : World) (g : Nat) (D : List (Int × α)) : Prop :=
  ∃ es clock, w.heap[g]? = some (.map es clock) ∧ es.toList.map (fun e => (e.key, e.val)) = rowOfMap enc D
def entMap {α : Type} (enc : α → Value) (g : Nat) (D : List (Int × α)) : Ent :=
  ⟨fun k => some g = some k, [g], fun k => by simp [eq_comm], fun w => MapI enc w g D, fun _ _ h hp => by
    obtain ⟨es, c, h1, h2⟩ := hp
    exact ⟨es, c, (h g rfl).trans h1, h2⟩⟩
/-- what a map holds behind m[k] = v -/
def putM {α : Type} : List (Int × α) → Int → α → List (Int × α)
  | [], k, v => [(k, v)]
  | p :: D, k, v => if k = p.1 then (k, v) :: D else p :: putM D k v
def lookM {α : Type} : List (Int × α) → Int → Option α
  | [], _ => none
  | p :: D, k => if k = p.1 then some p.2 else lookM D k
theorem lookM_put {α : Type} (k : Int) (v : α) (x : Int) : ∀ D : List (Int × α), lookM (putM D k v) x = if x = k then some v else lookM D x
  | [] => by simp [putM, lookM]
  | p :: D => by
    unfold putM
    split
    · rename_i h
      subst h
      simp only [lookM]
      split <;> rfl
    · rename_i h
      simp only [lookM, lookM_put k v x D]
      by_cases e : x = p.1
      · subst e; rw [if_pos rfl, if_neg (fun e => h e.symm), if_pos rfl]
      · rw [if_neg e, if_neg e]
def findD {α : Type} : List (Int × α) → Int → Nat → Option (Nat × α)
  | [], _, _ => none
  | p :: D, k, i => if k = p.1 then some (i, p.2) else findD D k (i + 1)
theorem findD_look {α : Type} (k : Int) : ∀ (D : List (Int × α)) (i : Nat), (findD D k i).map (·.2) = lookM D k
  | [], _ => rfl
  | p :: D, i => by simp only [findD, lookM]; split <;> simp [findD_look k D]
theorem findD_put {α : Type} (k : Int) (v : α) : ∀ (D : List (Int × α)) (i : Nat), match findD D k i with
    | some (j, _) => i ≤ j ∧ (∃ u, D[j - i]? = some (k, u)) ∧ putM D k v = D.modify (j - i) (fun _ => (k, v))
    | none => putM D k v = D ++ [(k, v)]
  | [], _ => rfl
  | p :: D, i => by
    simp only [findD]
    by_cases h : k = p.1
    · rw [if_pos h]
      refine ⟨Nat.le_refl _, ⟨p.2, by simp [h]⟩, by simp [putM, h]⟩
    · rw [if_neg h]
      have ih := findD_put k v D (i + 1)
      cases hf : findD D k (i + 1) with
      | none => rw [hf] at ih; simp only at ih ⊢; simp [putM, h, ih]
      | some q =>
        rw [hf] at ih
        obtain ⟨j, u⟩ := q
        simp only at ih ⊢
        obtain ⟨h1, ⟨u', h2⟩, h3⟩ := ih
        have e : j - i = (j - (i + 1)) + 1 := by omega
        refine ⟨by omega, ⟨u', by rw [e]; simpa using h2⟩, ?_⟩
        rw [e, List.modify_succ_cons, ← h3]
        simp [putM, h]
theorem findNow_int {α : Type} (enc : α → Value) (x : Int) : ∀ (es : List MapEntry) (D : List (Int × α)) (i : Nat), es.map (fun e => (e.key, e.val)) = rowOfMap enc D →
    Instr.findNow (.int .i64) (.int .i64 x) es i = some ((findD D x i).map fun p => (p.1, enc p.2))
  | [], [], _, _ => rfl
  | [], p :: D, _, h => by simp [rowOfMap] at h
  | e :: es, [], _, h => by simp [rowOfMap] at h
  | e :: es, p :: D, i, h => by
    simp only [rowOfMap, List.map_cons, List.cons.injEq, Prod.mk.injEq] at h
    obtain ⟨⟨h1, h2⟩, h3⟩ := h
    have ih := findNow_int enc x es D (i + 1) h3
    simp only [Instr.findNow, h1, Instr.sameNow, if_true, findD]
    by_cases hx : x = p.1
    · subst hx; simp [h2]
    · have : (x == p.1) = false := by simpa using hx
      rw [this, if_neg hx]
      exact ih
section
variable {P : Program} {C : Ctx} {Q : Exit → Act → World → Prop} {E : Slots} {S S' : List Ent}
variable {d ty ty2 ty3 : Nat} {ps : String} {af : Array Edge} {g0 : Option (Nat × Bool)} {x y m : Operand} {t k e g : Nat} {n : Int}
theorem run_checkKey [hm : MapOf P t k e] (b : Bool) (w : World) : (Instr.checkKey b 10000 k (.int .i64 n)).run P w = .ok () w := by
  unfold Instr.checkKey
  simp [run_underlying hm.key]
theorem run_findKey [hm : MapOf P t k e] {α : Type} (enc : α → Value) (es : List MapEntry) (D : List (Int × α)) (h : es.map (fun e => (e.key, e.val)) = rowOfMap enc D) (w : World) :
    (Instr.findKey k (.int .i64 n) es).run P w = .ok ((findD D n 0).map fun p => (p.1, enc p.2)) w := by
  unfold Instr.findKey
  simp [run_underlying hm.key, findNow_int enc n es D 0 h]
theorem run_lookup [hm : MapOf P t k e] {z : Value} [hz : ZeroOf P e z] {α : Type} {enc : α → Value} {z0 : α} (he : enc z0 = z) {D : List (Int × α)} {w : World} (hD : MapI enc w g D) (ok : Bool) :
    (Instr.lookup t (.map (some g)) (.int .i64 n) ok).run P w = .ok (if ok then .tuple #[enc ((lookM D n).getD z0), .bool (lookM D n).isSome] else enc ((lookM D n).getD z0)) w := by
  obtain ⟨es, cl, hg, hes⟩ := hD
  have hgo : (getObj g).run P w = .ok (.map es cl) w := by simp [getObj, Sem.run, hg]
  have h1 := run_checkKey (hm := hm) (n := n) es.isEmpty w
  have h2 := run_findKey (hm := hm) (n := n) enc es.toList D hes w
  have h3 := findD_look n D 0
  unfold Instr.lookup
  simp only [run_underlying hm.und, Sem.run_bind, Result.andThen_ok, hgo, Sem.run_pure, h1, h2]
  cases hf : findD D n 0 with
  | none =>
    rw [hf] at h3
    have h3' : lookM D n = none := h3.symm
    simp [hz.run w, h3', he]
  | some p =>
    rw [hf] at h3
    have h3' : lookM D n = some p.2 := h3.symm
    simp [h3']
/-- m[k] = v -/
theorem run_mapUpdate [hm : MapOf P t k e] {α : Type} {enc : α → Value} {D : List (Int × α)} {w : World} (hD : MapI enc w g D) (v : α) :
    ∃ w', (Instr.mapUpdate t (.map (some g)) (.int .i64 n) (enc v)).run P w = .ok () w' ∧ MapI enc w' g (putM D n v) ∧ Keeps [g] w w' := by
  obtain ⟨es, cl, hg, hes⟩ := hD
  have hlt : g < w.heap.size := (Array.getElem?_eq_some_iff.1 hg).1
  have hgo : (getObj g).run P w = .ok (.map es cl) w := by simp [getObj, Sem.run, hg]
  have h1 := run_checkKey (hm := hm) (n := n) false w
  have h2 := run_findKey (hm := hm) (n := n) enc es.toList D hes w
  have hput := findD_put n v D 0
  have hset : ∀ o : Obj, (setObj g o).run P w = .ok () { w with heap := w.heap.setIfInBounds g o } := fun o => by simp [setObj, Sem.run, hg]
  have hk : ∀ o : Obj, Keeps [g] w { w with heap := w.heap.setIfInBounds g o } := fun o => ⟨rfl, rfl, rfl, by simp, fun j _ hj => by
    simp only [List.mem_singleton] at hj
    exact Array.getElem?_setIfInBounds_ne (fun e => hj e.symm)⟩
  have hget : ∀ o : Obj, ({ w with heap := w.heap.setIfInBounds g o } : World).heap[g]? = some o := fun o => by simp [hlt]
  unfold Instr.mapUpdate
  simp only [run_underlying hm.und, Sem.run_bind, Result.andThen_ok, hgo, h1, h2]
  cases hf : findD D n 0 with
  | none =>
    rw [hf] at hput
    simp only [Option.map_none, hset]
    refine ⟨_, rfl, ⟨_, _, hget _, ?_⟩, hk _⟩
    rw [show putM D n v = D ++ [(n, v)] from hput]
    simp [rowOfMap] at hes ⊢
    exact hes
  | some p =>
    obtain ⟨i, u⟩ := p
    rw [hf] at hput
    simp only [Nat.sub_zero] at hput
    obtain ⟨_, ⟨u', hu⟩, hp⟩ := hput
    have hi : i < es.size := by
      have h4 := congrArg List.length hes
      have h5 := (List.getElem?_eq_some_iff.1 hu).1
      simp [rowOfMap] at h4
      omega
    have hkey : es[i].key = .int .i64 n := by
      have h6 : (es.toList.map fun e => (e.key, e.val))[i]? = some (es[i].key, es[i].val) := by simp [hi]
      rw [hes] at h6
      simp only [rowOfMap, List.getElem?_map, hu, Option.map_some, Option.some.injEq, Prod.mk.injEq] at h6
      exact h6.1.symm
    have hst : (Instr.keyThatStays (.int .i64 n) (.int .i64 n)).run P w = .ok (.int .i64 n) w := by
      unfold Instr.keyThatStays
      rw [if_pos (by simp [Instr.sameBits])]
      rfl
    simp only [Option.map_some, Array.getElem?_eq_getElem hi, Option.getD_some, hkey, Sem.run_bind, hst, Result.andThen_ok, hset]
    refine ⟨_, rfl, ⟨_, _, hget _, ?_⟩, hk _⟩
    rw [hp]
    apply List.ext_getElem?
    intro j
    have hj := congrArg (·[j]?) hes
    simp only [rowOfMap, List.getElem?_map] at hj ⊢
    rw [List.getElem?_modify]
    simp only [Array.toList_modify, List.getElem?_modify]
    by_cases e : i = j
    · subst e
      simp only [if_true, hu, Option.map_some]
      have : es.toList[i]? = some es[i] := by simp [hi]
      rw [this]; rfl
    · simp only [if_neg e]
      cases h7 : es.toList[j]? <;> cases h8 : D[j]? <;> rw [h7, h8] at hj <;> simp_all
theorem ES_makeMap {α : Type} (enc : α → Value) (hd : Nat.ble (d + 1) C.n = true) : ES P C E S ⟨some d, .makeMap t none, ty, ps, af, g0⟩ (fun E' S' => ∃ g, E' = (d, .map (some g)) :: E ∧ S' = entMap enc g [] :: S) := by
  refine (ES_core (fun u S' => ∃ g, u = .map (some g) ∧ S' = entMap enc g [] :: S) (fun a w ha hw => ?_) hd).weak (by rintro _ _ ⟨_, ⟨g, rfl, rfl⟩, rfl⟩; exact ⟨g, rfl, rfl⟩)
  refine ⟨_, _, _, ?_, hw.alloc (.map #[] 0) (e := entMap enc w.heap.size []) (fun _ h => h) ⟨#[], 0, heap_alloc_new w _, rfl⟩, _, rfl, rfl⟩
  simp [execOp, Instr.makeMap, newObj, Sem.run]
theorem ES_makeMapI [MapOf P t k e] [ZeroOf P e (.int .i64 0)] (hd : Nat.ble (d + 1) C.n = true) : ES P C E S ⟨some d, .makeMap t none, ty, ps, af, g0⟩ (fun E' S' => ∃ g, E' = (d, .map (some g)) :: E ∧ S' = entMap intV g [] :: S) := ES_makeMap intV hd
theorem ES_makeMapB [MapOf P t k e] [ZeroOf P e (.bool false)] (hd : Nat.ble (d + 1) C.n = true) : ES P C E S ⟨some d, .makeMap t none, ty, ps, af, g0⟩ (fun E' S' => ∃ g, E' = (d, .map (some g)) :: E ∧ S' = entMap boolV g [] :: S) := ES_makeMap boolV hd
section
variable [hm : MapOf P t k e] (hx : evo E m = some (.map (some g))) (hy : evo E x = some (.int .i64 n))
include hm hx
theorem QS_lenMap {α : Type} {enc : α → Value} {D : List (Int × α)} (hD : entMap enc g D ∈ S) : QS P C E S (.call ⟨.builtin .len, #[m], #[t]⟩) ty (.int .i64 D.length) := QS.of (fun a w ha hw => by
    obtain ⟨es, cl, hg, hes⟩ := (hw.holds _ hD).1
    have hgo : (getObj g).run P w = .ok (.map es cl) w := by simp [getObj, Sem.run, hg]
    have hl : es.size = D.length := by
      have := congrArg List.length hes
      simpa [rowOfMap] using this
    have hr : (Builtin.len_ #[t] ty #[.map (some g)]).run P w = .ok (.int .i64 D.length) w := by
      simp [Builtin.len_, run_underlying hm.und, hgo, hl, goInt]
    simp [execOp, resolve, invoke, builtin, ha.evo hx, hr])
include hy
theorem QS_lookI {D : List (Int × Int)} [hz : ZeroOf P e (.int .i64 0)] (hD : entMap intV g D ∈ S) : QS P C E S (.lookup t m x false) ty (.int .i64 ((lookM D n).getD 0)) :=
  QS.of (fun a w ha hw => by
    have h := run_lookup (hm := hm) (n := n) (enc := intV) (z0 := 0) rfl (hw.holds _ hD).1 false
    simp only [execOp, ha.evo hx, ha.evo hy, Sem.run_bind, h, Result.andThen_ok]; rfl)
theorem QS_lookIok {D : List (Int × Int)} [hz : ZeroOf P e (.int .i64 0)] (hD : entMap intV g D ∈ S) : QS P C E S (.lookup t m x true) ty (.tuple #[.int .i64 ((lookM D n).getD 0), .bool (lookM D n).isSome]) :=
  QS.of (fun a w ha hw => by
    have h := run_lookup (hm := hm) (n := n) (enc := intV) (z0 := 0) rfl (hw.holds _ hD).1 true
    simp only [execOp, ha.evo hx, ha.evo hy, Sem.run_bind, h, Result.andThen_ok]; rfl)
theorem QS_lookB {D : List (Int × Bool)} [hz : ZeroOf P e (.bool false)] (hD : entMap boolV g D ∈ S) : QS P C E S (.lookup t m x false) ty (.bool ((lookM D n).getD false)) :=
  QS.of (fun a w ha hw => by
    have h := run_lookup (hm := hm) (n := n) (enc := boolV) (z0 := false) rfl (hw.holds _ hD).1 false
    simp only [execOp, ha.evo hx, ha.evo hy, Sem.run_bind, h, Result.andThen_ok]; rfl)
theorem QS_lookBok {D : List (Int × Bool)} [hz : ZeroOf P e (.bool false)] (hD : entMap boolV g D ∈ S) : QS P C E S (.lookup t m x true) ty (.tuple #[.bool ((lookM D n).getD false), .bool (lookM D n).isSome]) :=
  QS.of (fun a w ha hw => by
    have h := run_lookup (hm := hm) (n := n) (enc := boolV) (z0 := false) rfl (hw.holds _ hD).1 true
    simp only [execOp, ha.evo hx, ha.evo hy, Sem.run_bind, h, Result.andThen_ok]; rfl)
theorem ES_mapUpdate {α : Type} {enc : α → Value} {D : List (Int × α)} {v : α} (hu : Upd S (entMap enc g D) (entMap enc g (putM D n v)) S') (hv : evo E y = some (enc v)) : ES P C E S ⟨none, .mapUpdate t m x y, ty, ps, af, g0⟩ (fun E' T => E' = E ∧ T = S') := by
  refine (ES_skip (fun T => T = S') (fun a w ha hw => ?_)).weak (by rintro _ _ ⟨rfl, rfl⟩; exact ⟨rfl, rfl⟩)
  obtain ⟨w', hr, hD', hk⟩ := run_mapUpdate (hm := hm) (n := n) (hw.holds _ hu.mem).1 v
  refine ⟨w', S', by simp [execOp, ha.evo hx, ha.evo hy, ha.evo hv, hr], ?_, rfl⟩
  refine hw.upd hu hk (by simp [entMap]) (fun k hk' => ?_) hD'
  have : some g = some k := hk'
  cases this
  obtain ⟨es, cl, hg, _⟩ := hD'
  exact ⟨(Array.getElem?_eq_some_iff.1 hg).1, .inl rfl⟩
end
end
end Go.Proofs.Ytppicbdaijiifaa
