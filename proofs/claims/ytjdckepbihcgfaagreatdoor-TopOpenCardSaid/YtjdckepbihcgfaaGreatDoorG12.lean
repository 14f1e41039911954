/- Lemmas for the walks (Ms, Stp, Sea1, Sea3). No condition. -/
import Derived.Test.YtjdckepbihcgfaaGreatDoorG06
import Derived.Laws.BytesString
import Derived.Test.YtjdckepbihcgfaaGreatDoorG04
import Derived.Test.YtjdckepbihcgfaaGreatDoorG11
import Derived.Test.YtjdckepbihcgfaaGreatDoorG07
set_option linter.unusedSimpArgs false
set_option linter.unusedVariables false
set_option linter.unusedSectionVars false
set_option linter.unnecessarySimpa false
namespace Go.Proofs.YtjdckepbihcgfaaGreatDoor
open Go.RowKit

theorem beq_bytes (a b : ByteArray) : (a == b) = decide (a = b) := by
  show (a.data == b.data) = _
  rw [Bool.eq_iff_iff, beq_iff_eq, decide_eq_true_eq, ByteArray.ext_iff]
def bytesOf (l : List Nat) : ByteArray := l.foldl (fun r n => r.push (UInt8.ofNat n)) ByteArray.empty
theorem bytesOf_data (l : List Nat) : (bytesOf l).data.toList = l.map UInt8.ofNat := by
  have key : ∀ (l : List Nat) (r : ByteArray), (l.foldl (fun r n => r.push (UInt8.ofNat n)) r).data.toList = r.data.toList ++ l.map UInt8.ofNat := by
    intro l
    induction l with
    | nil => simp
    | cons n l ih => intro r; rw [List.foldl_cons, ih]; simp [ByteArray.push]
  rw [bytesOf, key]; simp
theorem bytesOf_inj {l l' : List Nat} (h : ∀ n ∈ l, n < 256) (h' : ∀ n ∈ l', n < 256) (he : bytesOf l = bytesOf l') : l = l' := by
  have h1 : l.map UInt8.ofNat = l'.map UInt8.ofNat := by rw [← bytesOf_data, ← bytesOf_data, he]
  have h2 := congrArg (List.map UInt8.toNat) h1
  rw [List.map_map, List.map_map] at h2
  have q : ∀ m : List Nat, (∀ n ∈ m, n < 256) → m.map (UInt8.toNat ∘ UInt8.ofNat) = m := fun m hm => by
    conv => rhs; rw [← List.map_id m]
    exact List.map_congr_left fun n hn => by simp; exact hm n hn
  rwa [q l h, q l' h'] at h2
class MapStr (P : Program) (t : Nat) (k e : outParam Nat) : Prop where
  und : P.underlying t = some (.map k e)
  key : P.underlying k = some .string
/-- a set of texts: the map's keys, each with true -/
def SetS (w : World) (g : Nat) (D : List ByteArray) : Prop := ∃ es cl, w.heap[g]? = some (.map es cl) ∧ es.toList.map (fun e => (e.key, e.val)) = D.map fun b => (Value.string b, Value.bool true)
def entSet (g : Nat) (D : List ByteArray) : Ent :=
  ⟨fun k => some g = some k, [g], fun k => by simp [eq_comm], fun w => SetS w g D, fun w w' h hp => by
    obtain ⟨es, cl, hg, hes⟩ := hp
    exact ⟨es, cl, (h g rfl).trans hg, hes⟩⟩
def hasB (D : List ByteArray) (b : ByteArray) : Bool := D.any fun x => decide (b = x)
def addB (D : List ByteArray) (b : ByteArray) : List ByteArray := if hasB D b = true then D else D ++ [b]
theorem hasB_iff {D : List ByteArray} {b : ByteArray} : hasB D b = true ↔ b ∈ D := by
  unfold hasB
  rw [List.any_eq_true]
  exact ⟨fun ⟨x, hx, h⟩ => by simp at h; subst h; exact hx, fun h => ⟨b, h, by simp⟩⟩
def findB (b : ByteArray) : List ByteArray → Nat → Option Nat
  | [], _ => none
  | x :: D, i => if b = x then some i else findB b D (i + 1)
theorem findB_has (b : ByteArray) : ∀ (D : List ByteArray) (i : Nat), (findB b D i).isSome = hasB D b
  | [], _ => rfl
  | x :: D, i => by
    unfold findB hasB
    rw [List.any_cons]
    by_cases h : b = x
    · simp [h]
    · simp only [if_neg h, h, decide_false, Bool.false_or]; exact findB_has b D (i + 1)
theorem findB_at (b : ByteArray) : ∀ (D : List ByteArray) (i j : Nat), findB b D i = some j → i ≤ j ∧ D[j - i]? = some b
  | [], _, _, h => by cases h
  | x :: D, i, j, h => by
    unfold findB at h
    split at h
    · rename_i e
      cases h; subst e; simp
    · obtain ⟨h1, h2⟩ := findB_at b D (i + 1) j h
      have e : j - i = (j - (i + 1)) + 1 := by omega
      exact ⟨by omega, by rw [e]; simpa using h2⟩
theorem findNow_str (b : ByteArray) : ∀ (es : List MapEntry) (D : List ByteArray) (i : Nat), es.map (fun e => (e.key, e.val)) = D.map (fun b => (Value.string b, Value.bool true)) →
    Instr.findNow .string (.string b) es i = some ((findB b D i).map fun j => (j, .bool true))
  | [], [], _, _ => rfl
  | [], p :: D, _, h => by simp at h
  | e :: es, [], _, h => by simp at h
  | e :: es, p :: D, i, h => by
    simp only [List.map_cons, List.cons.injEq, Prod.mk.injEq] at h
    obtain ⟨⟨h1, h2⟩, h3⟩ := h
    have ih := findNow_str b es D (i + 1) h3
    simp only [Instr.findNow, h1, Instr.sameNow, beq_bytes, findB]
    by_cases hx : b = p
    · subst hx; simp [h2]
    · simp only [hx, decide_false, if_false]
      exact ih
section
variable {P : Program} {C : Ctx} {E : Slots} {S S' : List Ent}
variable {d ty : Nat} {ps : String} {af : Array Edge} {g0 : Option (Nat × Bool)} {x y m : Operand} {t k e g : Nat} {b : ByteArray}
theorem run_checkStr [hm : MapStr P t k e] (z : Bool) (w : World) : (Instr.checkKey z 10000 k (.string b)).run P w = .ok () w := by
  unfold Instr.checkKey
  simp [run_underlying hm.key]
theorem run_findStr [hm : MapStr P t k e] (es : List MapEntry) (D : List ByteArray) (h : es.map (fun e => (e.key, e.val)) = D.map (fun b => (Value.string b, Value.bool true))) (w : World) :
    (Instr.findKey k (.string b) es).run P w = .ok ((findB b D 0).map fun j => (j, .bool true)) w := by
  unfold Instr.findKey
  simp [run_underlying hm.key, findNow_str b es D 0 h]
theorem run_lookStr [hm : MapStr P t k e] [hz : ZeroOf P e (.bool false)] {D : List ByteArray} {w : World} (hD : SetS w g D) :
    (Instr.lookup t (.map (some g)) (.string b) false).run P w = .ok (.bool (hasB D b)) w := by
  obtain ⟨es, cl, hg, hes⟩ := hD
  have hgo : (getObj g).run P w = .ok (.map es cl) w := by simp [getObj, Sem.run, hg]
  have h1 := run_checkStr (hm := hm) (b := b) es.isEmpty w
  have h2 := run_findStr (hm := hm) (b := b) es.toList D hes w
  have h3 := findB_has b D 0
  unfold Instr.lookup
  simp only [run_underlying hm.und, Sem.run_bind, Result.andThen_ok, hgo, Sem.run_pure, h1, h2]
  cases hf : findB b D 0 with
  | none =>
    rw [hf] at h3
    simp [hz.run w, ← h3]
  | some p =>
    rw [hf] at h3
    simp [← h3]
theorem run_updateStr [hm : MapStr P t k e] {D : List ByteArray} {w : World} (hD : SetS w g D) :
    ∃ w', (Instr.mapUpdate t (.map (some g)) (.string b) (.bool true)).run P w = .ok () w' ∧ SetS w' g (addB D b) ∧ Keeps [g] w w' := by
  obtain ⟨es, cl, hg, hes⟩ := hD
  have hlt : g < w.heap.size := (Array.getElem?_eq_some_iff.1 hg).1
  have hgo : (getObj g).run P w = .ok (.map es cl) w := by simp [getObj, Sem.run, hg]
  have h1 := run_checkStr (hm := hm) (b := b) false w
  have h2 := run_findStr (hm := hm) (b := b) es.toList D hes w
  have h3 := findB_has b D 0
  have hset : ∀ o : Obj, (setObj g o).run P w = .ok () { w with heap := w.heap.setIfInBounds g o } := fun o => by simp [setObj, Sem.run, hg]
  have hk : ∀ o : Obj, Keeps [g] w { w with heap := w.heap.setIfInBounds g o } := fun o => ⟨rfl, rfl, rfl, by simp, fun j _ hj => by
    simp only [List.mem_singleton] at hj
    exact Array.getElem?_setIfInBounds_ne (fun e => hj e.symm)⟩
  have hget : ∀ o : Obj, ({ w with heap := w.heap.setIfInBounds g o } : World).heap[g]? = some o := fun o => by simp [hlt]
  unfold Instr.mapUpdate
  simp only [run_underlying hm.und, Sem.run_bind, Result.andThen_ok, hgo, h1, h2]
  cases hf : findB b D 0 with
  | none =>
    rw [hf] at h3
    simp only [Option.map_none, hset]
    refine ⟨_, rfl, ⟨_, _, hget _, ?_⟩, hk _⟩
    rw [show addB D b = D ++ [b] from if_neg (by rw [← h3]; simp)]
    simp at hes ⊢
    exact hes
  | some i =>
    rw [hf] at h3
    obtain ⟨_, hu⟩ := findB_at b D 0 i hf
    rw [Nat.sub_zero] at hu
    have hi : i < es.size := by
      have h4 := congrArg List.length hes
      have h5 := (List.getElem?_eq_some_iff.1 hu).1
      simp at h4
      omega
    have hkv : (es[i].key, es[i].val) = (Value.string b, Value.bool true) := by
      have h6 : (es.toList.map fun e => (e.key, e.val))[i]? = some (es[i].key, es[i].val) := by simp [hi]
      rw [hes] at h6
      simp only [List.getElem?_map, hu, Option.map_some, Option.some.injEq] at h6
      exact h6.symm
    have hkey : es[i].key = .string b := (Prod.mk.inj hkv).1
    have hst : (Instr.keyThatStays (.string b) (.string b)).run P w = .ok (.string b) w := by
      unfold Instr.keyThatStays
      rw [if_pos (by simp [Instr.sameBits, beq_bytes])]
      rfl
    simp only [Option.map_some, Array.getElem?_eq_getElem hi, Option.getD_some, hkey, Sem.run_bind, hst, Result.andThen_ok, hset]
    refine ⟨_, rfl, ⟨_, _, hget _, ?_⟩, hk _⟩
    rw [show addB D b = D from if_pos (by rw [← h3]; simp), ← hes]
    apply List.ext_getElem?
    intro j
    simp only [Array.toList_modify, List.getElem?_map, List.getElem?_modify]
    by_cases e : i = j
    · subst e
      have : es.toList[i]? = some es[i] := by simp [hi]
      have hval : es[i].val = .bool true := (Prod.mk.inj hkv).2
      simp [this, hkey, hval]
    · simp only [if_neg e, id_map']
theorem ES_makeSet (hd : Nat.ble (d + 1) C.n = true) : ES P C E S ⟨some d, .makeMap t none, ty, ps, af, g0⟩ (fun E' S' => ∃ g, E' = (d, .map (some g)) :: E ∧ S' = entSet g [] :: S) := by
  refine (ES_core (fun u S' => ∃ g, u = .map (some g) ∧ S' = entSet g [] :: S) (fun a w ha hw => ?_) hd).weak (by rintro _ _ ⟨_, ⟨g, rfl, rfl⟩, rfl⟩; exact ⟨g, rfl, rfl⟩)
  refine ⟨_, _, _, ?_, hw.alloc (.map #[] 0) (e := entSet w.heap.size []) (fun _ h => h) ⟨#[], 0, heap_alloc_new w _, rfl⟩, _, rfl, rfl⟩
  simp [execOp, Instr.makeMap, newObj, Sem.run]
section
variable [hm : MapStr P t k e] (hx : evo E m = some (.map (some g))) (hy : evo E x = some (.string b))
include hm hx hy
theorem QS_lookStr {D : List ByteArray} [hz : ZeroOf P e (.bool false)] (hD : entSet g D ∈ S) : QS P C E S (.lookup t m x false) ty (.bool (hasB D b)) :=
  QS.of (fun a w ha hw => by
    have h := run_lookStr (hm := hm) (b := b) (hw.holds _ hD).1
    simp only [execOp, ha.evo hx, ha.evo hy, Sem.run_bind, h, Result.andThen_ok]; rfl)
theorem ES_updateStr {D : List ByteArray} (hu : Upd S (entSet g D) (entSet g (addB D b)) S') (hv : evo E y = some (.bool true)) : ES P C E S ⟨none, .mapUpdate t m x y, ty, ps, af, g0⟩ (fun E' T => E' = E ∧ T = S') := by
  refine (ES_skip (fun T => T = S') (fun a w ha hw => ?_)).weak (by rintro _ _ ⟨rfl, rfl⟩; exact ⟨rfl, rfl⟩)
  obtain ⟨w', hr, hD', hk⟩ := run_updateStr (hm := hm) (b := b) (hw.holds _ hu.mem).1
  refine ⟨w', S', by simp [execOp, ha.evo hx, ha.evo hy, ha.evo hv, hr], ?_, rfl⟩
  refine hw.upd hu hk (by simp [entSet]) (fun k hk' => ?_) hD'
  have : some g = some k := hk'
  cases this
  obtain ⟨es, cl, hg, _⟩ := hD'
  exact ⟨(Array.getElem?_eq_some_iff.1 hg).1, .inl rfl⟩
end
/-- bytes -/
def byEnc (n : Nat) : List Value := [.int .u8 (n : Nat)]
end
end Go.Proofs.YtjdckepbihcgfaaGreatDoor

namespace Go.Proofs.YtjdckepbihcgfaaGreatDoor
open Go.RowKit

structure Stp where
  call : Int
  res : Int
  deriving Inhabited, DecidableEq
def Stp.enc (s : Stp) : List Value := [.int .i64 s.call, .int .i64 s.res]
abbrev RdStp (w : World) (A : Option Addr) (l : List Stp) : Prop := RdE Stp.enc 2 w A l
end Go.Proofs.YtjdckepbihcgfaaGreatDoor

namespace Go.Proofs.YtjdckepbihcgfaaGreatDoor

/-! a search in general -/
section
variable {W : Type} (can : W → Nat → Bool) (nx : W → Nat → W) (comp : W → Bool) (k : Nat)
def srch : Nat → W → Option W
  | 0, w => if comp w = true then some w else none
  | n + 1, w => if comp w = true then some w else (List.range k).findSome? fun i => if can w i = true then srch n (nx w i) else none
def childS : Nat → W → Nat → Option W
  | 0, _, _ => none
  | n + 1, w, i => srch can nx comp k n (nx w i)
def tryS (n : Nat) (w : W) (i : Nat) : Option W := if can w i = true then childS can nx comp k n w i else none
theorem findSome_none {α β : Type} {f : α → Option β} : ∀ {l : List α}, (∀ x ∈ l, f x = none) → l.findSome? f = none
  | [], _ => rfl
  | x :: l, h => by rw [List.findSome?_cons, h x (by simp)]; exact findSome_none fun y hy => h y (by simp [hy])
theorem findSome_at {β : Type} {f : Nat → Option β} {r : β} {i k : Nat} (hi : i < k) (hno : ∀ j, j < i → f j = none) (h : f i = some r) : (List.range k).findSome? f = some r := by
  obtain ⟨d, rfl⟩ : ∃ d, k = i + (d + 1) := ⟨k - i - 1, by omega⟩
  rw [List.range_add, List.findSome?_append, findSome_none (fun x hx => hno x (List.mem_range.1 hx)), List.range_succ_eq_map]
  simp [h]
theorem findSome_no {β : Type} {f : Nat → Option β} {k : Nat} (hno : ∀ j, j < k → f j = none) : (List.range k).findSome? f = none :=
  findSome_none fun x hx => hno x (List.mem_range.1 hx)
theorem findSome_no_iff {β : Type} {f : Nat → Option β} {k : Nat} : (List.range k).findSome? f = none ↔ ∀ j, j < k → f j = none := by
  rw [List.findSome?_eq_none_iff]
  simp [List.mem_range]
theorem srch_eq (n : Nat) (w : W) : srch can nx comp k n w = if comp w = true then some w else (List.range k).findSome? (tryS can nx comp k n w) := by
  cases n with
  | zero =>
    rw [srch, findSome_no (fun j _ => by unfold tryS childS; split <;> rfl)]
  | succ n =>
    rw [srch]; rfl
theorem srch_comp {n : Nat} {w : W} (h : comp w = true) : srch can nx comp k n w = some w := by rw [srch_eq, if_pos h]
theorem srch_some {n i : Nat} {w r : W} (h : ¬ comp w = true) (hi : i < k) (hno : ∀ j, j < i → tryS can nx comp k n w j = none) (hr : tryS can nx comp k n w i = some r) : srch can nx comp k n w = some r := by
  rw [srch_eq, if_neg h]; exact findSome_at hi hno hr
theorem srch_none {n : Nat} {w : W} (h : ¬ comp w = true) (hno : ∀ j, j < k → tryS can nx comp k n w j = none) : srch can nx comp k n w = none := by
  rw [srch_eq, if_neg h]; exact findSome_no hno
end
section
variable {W : Type} {can can' : W → Nat → Bool} {nx : W → Nat → W} {comp : W → Bool} {k : Nat}
theorem srch_none_congr {R : W → W → Prop} (h1 : ∀ w w', R w w' → comp w = comp w') (h2 : ∀ w w' i, i < k → R w w' → can w i = can w' i) (h3 : ∀ w w' i, i < k → R w w' → can w i = true → R (nx w i) (nx w' i)) :
    ∀ n w w', R w w' → (srch can nx comp k n w = none ↔ srch can nx comp k n w' = none)
  | 0, w, w', hR => by rw [srch, srch, h1 w w' hR]; split <;> simp
  | n + 1, w, w', hR => by
    rw [srch, srch, h1 w w' hR]
    split
    · simp
    · rw [findSome_no_iff, findSome_no_iff]
      refine forall_congr' fun i => forall_congr' fun hi => ?_
      rw [h2 w w' i hi hR]
      split
      · rename_i hc
        exact srch_none_congr h1 h2 h3 n _ _ (h3 w w' i hi hR (by rw [h2 w w' i hi hR]; exact hc))
      · simp
end

/-! masks -/
def unset (k m : Nat) : Nat := ((List.range k).filter fun i => !m.testBit i).length
theorem bit_put (m i j : Nat) : (m ||| 2 ^ i).testBit j = (m.testBit j || decide (i = j)) := by
  rw [Nat.testBit_or, Nat.testBit_two_pow]
theorem unset_put {k m i : Nat} (hi : i < k) (h : m.testBit i = false) : unset k (m ||| 2 ^ i) + 1 = unset k m := by
  unfold unset
  have key : ∀ n, ((List.range n).filter fun j => !(m ||| 2 ^ i).testBit j).length + (if i < n then 1 else 0) = ((List.range n).filter fun j => !m.testBit j).length := by
    intro n
    induction n with
    | zero => simp
    | succ n ih =>
      rw [List.range_succ, List.filter_append, List.filter_append, List.length_append, List.length_append]
      by_cases e : i = n
      · subst e
        have h1 : (m ||| 2 ^ i).testBit i = true := by rw [bit_put]; simp
        simp [h, h1] at ih ⊢
        exact ih
      · have h1 : (m ||| 2 ^ i).testBit n = m.testBit n := by rw [bit_put]; simp [e]
        have h2 : (i < n + 1) ↔ i < n := by omega
        simp only [List.filter_cons, List.filter_nil, h1, h2]
        omega
  have := key k
  rw [if_pos hi] at this
  exact this
theorem unset_0 (k : Nat) : unset k 0 = k := by
  unfold unset
  rw [List.filter_eq_self.2 (by simp)]
  simp
/-! lists of steps, and what stands behind them -/
section
variable (ts : List Int) (cs : List Cl) (f : Nat → Nat)
def maskW (w : List Stp) : Nat := w.foldl (fun m s => m ||| 2 ^ s.call.toNat) 0
def callAt (i : Nat) : Cl := cs.getD i default
def typAt (t : Int) : Int := ts.getD t.toNat 0
def stepSt (sts : List (List Int)) (i : Nat) : Res := stepP (typAt ts (callAt cs i).thing) (sts.getD (callAt cs i).thing.toNat []) (callAt cs i).kind (callAt cs i).arg
def statesW (w : List Stp) : List (List Int) := w.foldl (fun sts s => sts.set (callAt cs s.call.toNat).thing.toNat (stepSt ts cs sts s.call.toNat).1) (ts.map begL)
def nextW (w : List Stp) (i : Nat) : List Stp := w ++ [⟨(i : Int), (stepSt ts cs (statesW ts cs w) i).2.1⟩]
def fitsSt (sts : List (List Int)) (i : Nat) : Bool := decide ((stepSt ts cs sts i).2.2 = 0) && (decide ((callAt cs i).to = -1) || decide ((stepSt ts cs sts i).2.1 = (callAt cs i).res))
def canC (w : List Stp) (i : Nat) : Bool := (!(maskW w).testBit i && decide (f i &&& maskW w = 0)) && fitsSt ts cs (statesW ts cs w) i
def compM (m : Nat) : Bool := (List.range cs.length).all fun i => decide ((callAt cs i).to = -1) || m.testBit i
def compW (w : List Stp) : Bool := compM cs (maskW w)
def srchC (n : Nat) (w : List Stp) : Option (List Stp) := srch (canC ts cs f) (nextW ts cs) (compW cs) cs.length n w
theorem maskW_snoc (w : List Stp) (s : Stp) : maskW (w ++ [s]) = maskW w ||| 2 ^ s.call.toNat := by simp [maskW, List.foldl_append]
theorem maskW_next (w : List Stp) (i : Nat) : maskW (nextW ts cs w i) = maskW w ||| 2 ^ i := by simp [nextW, maskW_snoc]
theorem statesW_snoc (w : List Stp) (s : Stp) : statesW ts cs (w ++ [s]) = (statesW ts cs w).set (callAt cs s.call.toNat).thing.toNat (stepSt ts cs (statesW ts cs w) s.call.toNat).1 := by simp [statesW, List.foldl_append]
theorem statesW_next (w : List Stp) (i : Nat) : statesW ts cs (nextW ts cs w i) = (statesW ts cs w).set (callAt cs i).thing.toNat (stepSt ts cs (statesW ts cs w) i).1 := by simp [nextW, statesW_snoc]
theorem mask_bit (w : List Stp) (i : Nat) : (maskW w).testBit i = w.any fun s => decide (s.call.toNat = i) := by
  have key : ∀ (w : List Stp) (m : Nat), (w.foldl (fun m s => m ||| 2 ^ s.call.toNat) m).testBit i = (m.testBit i || w.any fun s => decide (s.call.toNat = i)) := by
    intro w
    induction w with
    | nil => simp
    | cons s w ih => intro m; rw [List.foldl_cons, ih, bit_put, List.any_cons, Bool.or_assoc]
  rw [maskW, key]; simp
def RelOk (cs : List Cl) (f : Nat → Nat) : Prop := ∀ i j, (f i).testBit j = true → i < cs.length ∧ j < cs.length ∧ i ≠ j ∧ (callAt cs i).to ≠ -1
def StsOk (sts : List (List Int)) : Prop := sts.length = ts.length ∧ ∀ t, t < ts.length → chkS (ts.getD t 0) (sts.getD t []) = 0
def CallsOk : Prop := ∀ i, i < cs.length → 0 ≤ (callAt cs i).thing ∧ (callAt cs i).thing < ts.length ∧ (kindsL (typAt ts (callAt cs i).thing)).contains (callAt cs i).kind = true ∧ argB (callAt cs i).kind (callAt cs i).arg = true
structure PathW (w : List Stp) : Prop where
  len : w.length + unset cs.length (maskW w) = cs.length
  calls : ∀ s ∈ w, 0 ≤ s.call ∧ s.call.toNat < cs.length
  sts : StsOk ts (statesW ts cs w)
variable {ts cs f}
theorem CallsOk.of {i : Int} (h : ClsOk ts i cs) : CallsOk ts cs := fun q hq => by
  have h1 := h.each q hq
  have e : callAt cs q = cs[q] := by simp [callAt, List.getD_eq_getElem?_getD, hq]
  rw [e]
  exact ⟨h1.thing.1, h1.thing.2, h1.kind, h1.arg⟩
theorem path_nil (hts : typesOk ts = true) : PathW ts cs [] := by
  refine ⟨by simp [maskW, unset_0], by simp, by simp [statesW], fun t ht => ?_⟩
  have e : (statesW ts cs []).getD t [] = begL (ts.getD t 0) := by simp [statesW, List.getD_eq_getElem?_getD, ht]
  rw [e]
  refine begL_ok ?_
  have h1 : ts.getD t 0 = ts[t] := by simp [List.getD_eq_getElem?_getD, ht]
  rw [h1]
  unfold typesOk at hts
  rw [Bool.and_eq_true, Bool.not_eq_true'] at hts
  have h2 := List.any_eq_false.1 hts.2 ts[t] (List.getElem_mem ht)
  unfold badT at h2
  unfold typB
  simp only [decide_eq_true_eq] at h2
  rw [Bool.and_eq_true, decide_eq_true_eq, decide_eq_true_eq]
  omega
theorem step_fit (hc : CallsOk ts cs) {i : Nat} (hi : i < cs.length) : fitB (typAt ts (callAt cs i).thing) (callAt cs i).kind := kinds_fit (hc i hi).2.2.1
theorem stepO_is (hc : CallsOk ts cs) {sts : List (List Int)} (hs : StsOk ts sts) {i : Nat} (hi : i < cs.length) :
    stepO (typAt ts (callAt cs i).thing) (sts.getD (callAt cs i).thing.toNat []) (callAt cs i).kind (callAt cs i).arg = stepSt ts cs sts i := by
  obtain ⟨h1, h2, h3, h4⟩ := hc i hi
  unfold stepO stepSt
  have hck : chkS (typAt ts (callAt cs i).thing) (sts.getD (callAt cs i).thing.toNat []) = 0 := hs.2 _ (by omega)
  rw [if_pos hck, if_pos (by rw [h3, h4]; rfl)]
theorem stsOk_set (hc : CallsOk ts cs) {sts : List (List Int)} (hs : StsOk ts sts) {i : Nat} (hi : i < cs.length) (he : (stepSt ts cs sts i).2.2 = 0) : StsOk ts (sts.set (callAt cs i).thing.toNat (stepSt ts cs sts i).1) := by
  obtain ⟨h1, h2, h3, h4⟩ := hc i hi
  refine ⟨by rw [List.length_set]; exact hs.1, fun t ht => ?_⟩
  by_cases e : (callAt cs i).thing.toNat = t
  · subst e
    have : (sts.set (callAt cs i).thing.toNat (stepSt ts cs sts i).1).getD (callAt cs i).thing.toNat [] = (stepSt ts cs sts i).1 := by
      simp [List.getD_eq_getElem?_getD, hs.1, ht]
    rw [this]
    exact step_valid (hs.2 _ ht) (step_fit hc hi) h4 he
  · have : (sts.set (callAt cs i).thing.toNat (stepSt ts cs sts i).1).getD t [] = sts.getD t [] := by
      simp [List.getD_eq_getElem?_getD, List.getElem?_set, e]
    rw [this]; exact hs.2 t ht
theorem path_next (hc : CallsOk ts cs) {w : List Stp} (h : PathW ts cs w) {i : Nat} (hi : i < cs.length) (hm : (maskW w).testBit i = false) (he : (stepSt ts cs (statesW ts cs w) i).2.2 = 0) : PathW ts cs (nextW ts cs w i) := by
  refine ⟨?_, fun s hs => ?_, ?_⟩
  · rw [maskW_next]
    have h1 := unset_put hi hm
    have h2 := h.len
    simp only [nextW, List.length_append, List.length_singleton]
    omega
  · rcases List.mem_append.1 hs with hs | hs
    · exact h.calls s hs
    · rw [List.mem_singleton] at hs; subst hs; exact ⟨by simp, by simpa using hi⟩
  · rw [statesW_next]; exact stsOk_set hc h.sts hi he
theorem mask_in {w : List Stp} (h : PathW ts cs w) {j : Nat} (hj : (maskW w).testBit j = true) : j < cs.length := by
  rw [mask_bit, List.any_eq_true] at hj
  obtain ⟨s, hs, hj⟩ := hj
  have := (h.calls s hs).2
  simp at hj; omega
theorem mask_lt {w : List Stp} (h : PathW ts cs w) : maskW w < 2 ^ cs.length := by
  refine Nat.lt_pow_two_of_testBit _ fun i hi => ?_
  rw [Bool.eq_false_iff]
  intro hb
  have := mask_in h hb
  omega
theorem compM_iff {m : Nat} : compM cs m = true ↔ ∀ i, i < cs.length → (callAt cs i).to ≠ -1 → m.testBit i = true := by
  unfold compM
  rw [List.all_eq_true]
  refine ⟨fun h i hi ht => by have := h i (List.mem_range.2 hi); simpa [ht] using this, fun h i hi => ?_⟩
  by_cases ht : (callAt cs i).to = -1
  · simp [ht]
  · simp [h i (List.mem_range.1 hi) ht]
theorem fitsSt_iff {sts : List (List Int)} {i : Nat} : fitsSt ts cs sts i = true ↔ (stepSt ts cs sts i).2.2 = 0 ∧ ((callAt cs i).to = -1 ∨ (stepSt ts cs sts i).2.1 = (callAt cs i).res) := by
  unfold fitsSt; simp
theorem canC_iff {w : List Stp} {i : Nat} : canC ts cs f w i = true ↔ (maskW w).testBit i = false ∧ f i &&& maskW w = 0 ∧ fitsSt ts cs (statesW ts cs w) i = true := by
  unfold canC; simp [and_assoc]
theorem srchC_none_congr {w w' : List Stp} (hm : maskW w = maskW w') (hs : statesW ts cs w = statesW ts cs w') (n : Nat) : srchC ts cs f n w = none ↔ srchC ts cs f n w' = none := by
  refine srch_none_congr (R := fun w w' => maskW w = maskW w' ∧ statesW ts cs w = statesW ts cs w') ?_ ?_ ?_ n w w' ⟨hm, hs⟩
  · rintro w w' ⟨h1, _⟩
    unfold compW; rw [h1]
  · rintro w w' i _ ⟨h1, h2⟩
    unfold canC; rw [h1, h2]
  · rintro w w' i _ ⟨h1, h2⟩ _
    exact ⟨by rw [maskW_next, maskW_next, h1], by rw [statesW_next, statesW_next, h2]⟩
end

/-! what a state is remembered by -/
def byteL (x : Int) : Nat := (x % 256).toNat
def rowKey (s : List Int) : List Nat := byteL s.length :: s.flatMap fun n => [byteL n, byteL (n / 256)]
def keyL (m : Nat) (sts : List (List Int)) : List Nat := [byteL m, byteL ((m >>> 8 : Nat) : Int)] ++ sts.flatMap rowKey
theorem valid_bounds {typ : Int} {s : List Int} (h : chkS typ s = 0) : s.length ≤ 50 ∧ ∀ x ∈ s, 0 ≤ x ∧ x ≤ 1000 := by
  obtain ⟨_, h2, h3⟩ := chkS_ok h
  refine ⟨h2, fun x hx => ?_⟩
  have hall : s.all okI = true → 0 ≤ x ∧ x ≤ 1000 := fun ha => by
    have := List.all_eq_true.1 ha x hx
    simp only [okI, Bool.and_eq_true, decide_eq_true_eq] at this
    omega
  unfold validS at h3
  split at h3
  · unfold oneB at h3
    rw [Bool.and_eq_true, Bool.and_eq_true, decide_eq_true_eq, decide_eq_true_eq, decide_eq_true_eq] at h3
    obtain ⟨y, rfl⟩ := List.length_eq_one_iff.1 h3.1
    rw [List.mem_singleton] at hx; subst hx
    exact h3.2
  · split at h3
    · rw [Bool.and_eq_true] at h3; exact hall h3.2
    · exact hall h3
theorem byte_inj {x y : Int} (hx : 0 ≤ x ∧ x ≤ 1000) (hy : 0 ≤ y ∧ y ≤ 1000) (h1 : byteL x = byteL y) (h2 : byteL (x / 256) = byteL (y / 256)) : x = y := by
  unfold byteL at h1 h2; omega
theorem vals_inj : ∀ {s s' : List Int} {r r' : List Nat}, s.length = s'.length → (∀ x ∈ s, 0 ≤ x ∧ x ≤ 1000) → (∀ x ∈ s', 0 ≤ x ∧ x ≤ 1000) →
    (s.flatMap fun n => [byteL n, byteL (n / 256)]) ++ r = (s'.flatMap fun n => [byteL n, byteL (n / 256)]) ++ r' → s = s' ∧ r = r'
  | [], [], _, _, _, _, _, h => ⟨rfl, by simpa using h⟩
  | [], _ :: _, _, _, hl, _, _, _ => by simp at hl
  | _ :: _, [], _, _, hl, _, _, _ => by simp at hl
  | x :: s, y :: s', r, r', hl, hx, hy, h => by
    simp only [List.flatMap_cons, List.cons_append, List.nil_append, List.append_assoc, List.cons.injEq] at h
    obtain ⟨h1, h2, h3⟩ := h
    have e := byte_inj (hx x (by simp)) (hy y (by simp)) h1 h2
    obtain ⟨e2, e3⟩ := vals_inj (by simpa using hl) (fun z hz => hx z (by simp [hz])) (fun z hz => hy z (by simp [hz])) h3
    exact ⟨by rw [e, e2], e3⟩
theorem rows_inj : ∀ {sts sts' : List (List Int)}, sts.length = sts'.length → (∀ s ∈ sts, s.length ≤ 50 ∧ ∀ x ∈ s, 0 ≤ x ∧ x ≤ 1000) → (∀ s ∈ sts', s.length ≤ 50 ∧ ∀ x ∈ s, 0 ≤ x ∧ x ≤ 1000) →
    sts.flatMap rowKey = sts'.flatMap rowKey → sts = sts'
  | [], [], _, _, _, _ => rfl
  | [], _ :: _, hl, _, _, _ => by simp at hl
  | _ :: _, [], hl, _, _, _ => by simp at hl
  | s :: sts, s' :: sts', hl, h1, h2, h => by
    simp only [List.flatMap_cons, rowKey, List.cons_append, List.cons.injEq] at h
    have q1 := h1 s (by simp)
    have q2 := h2 s' (by simp)
    have h1' := h.1
    unfold byteL at h1'
    obtain ⟨e, er⟩ := vals_inj (by omega) q1.2 q2.2 h.2
    rw [e, rows_inj (by simpa using hl) (fun z hz => h1 z (by simp [hz])) (fun z hz => h2 z (by simp [hz])) er]
theorem stsOk_bounds {ts : List Int} {sts : List (List Int)} (h : StsOk ts sts) : ∀ s ∈ sts, s.length ≤ 50 ∧ ∀ x ∈ s, 0 ≤ x ∧ x ≤ 1000 := by
  intro s hs
  obtain ⟨t, ht, rfl⟩ := List.mem_iff_getElem.1 hs
  have := h.2 t (by rw [← h.1]; exact ht)
  have e : sts.getD t [] = sts[t] := by simp [List.getD_eq_getElem?_getD, ht]
  rw [e] at this
  exact valid_bounds this
theorem key_inj {ts : List Int} {m m' : Nat} {sts sts' : List (List Int)} (hm : m < 65536) (hm' : m' < 65536) (h : StsOk ts sts) (h' : StsOk ts sts') (he : keyL m sts = keyL m' sts') : m = m' ∧ sts = sts' := by
  simp only [keyL, List.cons_append, List.nil_append, List.cons.injEq, byteL, Nat.shiftRight_eq_div_pow] at he
  exact ⟨by omega, rows_inj (h.1.trans h'.1.symm) (stsOk_bounds h) (stsOk_bounds h') he.2.2⟩
theorem byteL_lt (x : Int) : byteL x < 256 := by unfold byteL; omega
theorem keyL_lt (m : Nat) (sts : List (List Int)) : ∀ n ∈ keyL m sts, n < 256 := by
  intro n hn
  unfold keyL at hn
  rcases List.mem_append.1 hn with hn | hn
  · simp only [List.mem_cons, List.not_mem_nil, or_false] at hn
    rcases hn with rfl | rfl <;> exact byteL_lt _
  · obtain ⟨s, _, hn⟩ := List.mem_flatMap.1 hn
    unfold rowKey at hn
    rcases List.mem_cons.1 hn with rfl | hn
    · exact byteL_lt _
    · obtain ⟨x, _, hn⟩ := List.mem_flatMap.1 hn
      simp only [List.mem_cons, List.not_mem_nil, or_false] at hn
      rcases hn with rfl | rfl <;> exact byteL_lt _
def keyW (ts : List Int) (cs : List Cl) (w : List Stp) : ByteArray := bytesOf (keyL (maskW w) (statesW ts cs w))
/-- what is remembered leads nowhere -/
def MemoOk (ts : List Int) (cs : List Cl) (f : Nat → Nat) (D : List ByteArray) : Prop := ∀ w, PathW ts cs w → keyW ts cs w ∈ D → srchC ts cs f (unset cs.length (maskW w)) w = none
theorem memo_nil (ts : List Int) (cs : List Cl) (f : Nat → Nat) : MemoOk ts cs f [] := fun w _ h => by simp at h
theorem memo_add {ts : List Int} {cs : List Cl} {f : Nat → Nat} {D : List ByteArray} (hk : cs.length ≤ 16) (hD : MemoOk ts cs f D) {w : List Stp} (hw : PathW ts cs w) (hn : srchC ts cs f (unset cs.length (maskW w)) w = none) : MemoOk ts cs f (addB D (keyW ts cs w)) := by
  intro v hv hm
  unfold addB at hm
  split at hm
  · exact hD v hv hm
  · rcases List.mem_append.1 hm with hm | hm
    · exact hD v hv hm
    · rw [List.mem_singleton] at hm
      have hm' := bytesOf_inj (keyL_lt _ _) (keyL_lt _ _) hm
      have p16 : 2 ^ cs.length ≤ 65536 := Nat.le_trans (Nat.pow_le_pow_right (by decide) hk) (by decide)
      obtain ⟨e1, e2⟩ := key_inj (Nat.lt_of_lt_of_le (mask_lt hv) p16) (Nat.lt_of_lt_of_le (mask_lt hw) p16) hv.sts hw.sts hm'
      rw [srchC_none_congr e1 e2, e1]
      exact hn
end Go.Proofs.YtjdckepbihcgfaaGreatDoor

namespace Go.Proofs.YtjdckepbihcgfaaGreatDoor
open Go.RowKit

instance : MapStr Tryz.prog 149 9 4 := ⟨Tryz.underlying149, Tryz.underlying9⟩
theorem bitZ (m i : Nat) : ((((m >>> i) &&& 1 : Nat) : Int) = 0) ↔ m.testBit i = false := by
  rw [Int.natCast_eq_zero, ← Nat.and_comm]; simp [Nat.testBit]
theorem bitO (m i : Nat) : ((((m >>> i) &&& 1 : Nat) : Int) = 1) ↔ m.testBit i = true := by
  have h : (m >>> i) &&& 1 < 2 := Nat.lt_of_le_of_lt Nat.and_le_right (by decide)
  have hz := bitZ m i
  constructor
  · intro e
    cases hb : m.testBit i with
    | true => rfl
    | false => rw [hz.2 hb] at e; cases e
  · intro hb
    have : ¬ ((((m >>> i) &&& 1 : Nat) : Int) = 0) := fun e => by rw [hz.1 e] at hb; cases hb
    omega
section
variable {P : Program} {C : Ctx} {E : Slots} {S : List Ent} {ty ty2 ty3 : Nat} {x y : Operand}
theorem QS_toByte {s t : Nat} {k0 k1 : IntKind} {n : Int} [IntOf P s k0] [IntOf P t .u8] (hx : evo E x = some (.int k1 n)) : QS P C E S (.convert s t x) ty (.int .u8 ((byteL n : Nat) : Int)) := by
  have h := QS_convertW (P := P) (C := C) (S := S) (s := s) (t := t) (k := .u8) (ty := ty) hx
  have e : IntKind.u8.wrap n = ((byteL n : Nat) : Int) := by
    rw [IntKind.wrap_u8]; unfold byteL; omega
  rwa [e] at h
theorem QS_shr8I {k : IntKind} {n : Int} (hx : evo E x = some (.int .i64 n)) (hy : evo E y = some (.int k 8)) (h : 0 ≤ n ∧ n ≤ 1000) : QS P C E S (.binOp .shr ty2 x y ty3) ty (.int .i64 (n / 256)) := by
  have e1 : n = ((n.toNat : Nat) : Int) := by omega
  have e2 : ((n.toNat >>> 8 : Nat) : Int) = n / 256 := by rw [Nat.shiftRight_eq_div_pow]; omega
  have h := QS_shr64 (P := P) (C := C) (S := S) (ty := ty) (ty2 := ty2) (ty3 := ty3) (a := n.toNat) (b := 8) (by rw [hx, ← e1]) hy (by omega)
  rwa [e2] at h
theorem QS_bytesStr {s t e g c : Nat} {l : List Nat} [hs : SliceOf P s e 1] [he : IntOf P e .u8] (ht : P.underlying t = some .string) (hx : evo E x = some (.slice (some ⟨g, 0, none⟩) l.length c))
    (hm : entOwn byEnc 1 e (some ⟨g, 0, none⟩) c l ∈ S) : QS P C E S (.convert s t x) ty (.string (bytesOf l)) :=
  QS.of (fun a w ha hw => by
    have ho : Own byEnc 1 e w 0 (.slice (some ⟨g, 0, none⟩) l.length c) l := (hw.holds _ hm).1
    have hl : (loadCells ⟨g, 0, none⟩ l.length).run P w = .ok ((l.map fun n : Nat => (n : Int)).map (Value.int .u8)).toArray w := by
      have h1 := run_loadCells_list (P := P) (w := w) ⟨g, 0, none⟩ (l.map fun n : Nat => Value.int .u8 (n : Int)) (fun j v hv => by
        rw [List.getElem?_map] at hv
        obtain ⟨n, hn, rfl⟩ := Option.map_eq_some_iff.1 hv
        obtain ⟨hj, rfl⟩ := List.getElem?_eq_some_iff.1 hn
        have := ho.cellAt (j := j) (off := 0) (v := .int .u8 (l[j] : Nat)) (fun _ => rfl) hj rfl
        rw [add_mk]; simpa using this)
      rw [List.length_map] at h1
      rw [List.map_map]
      exact h1
    have hr := run_bytesToString (P := P) w ⟨g, 0, none⟩ l.length c (l.map fun n : Nat => (n : Int)) hl
    have hc := run_convert_bytes_string (P := P) w s t e (some ⟨g, 0, none⟩) l.length c hs.und he.und ht
    rw [hr] at hc
    have e1 : (l.map fun n : Nat => (n : Int)).foldl (fun r n => r.push (UInt8.ofNat n.toNat)) ByteArray.empty = bytesOf l := by
      rw [List.foldl_map]; rfl
    rw [e1] at hc
    simp [execOp, ha.evo hx, hc])
end
/-! the finder -/
@[reducible] def finC (tv cv : Value) (n : Int) (f : Nat → Nat) (hv : Value) (m : Nat) (ov : Value) (gm : Nat) : Array Value :=
  #[tv, cv, .int .i64 n, .int .u16 (f 0), .int .u16 (f 1), .int .u16 (f 2), .int .u16 (f 3), .int .u16 (f 4), .int .u16 (f 5), .int .u16 (f 6), .int .u16 (f 7), .int .u16 (f 8), .int .u16 (f 9), .int .u16 (f 10), .int .u16 (f 11), hv, .int .u16 (m : Nat), ov, .map (some gm)]
theorem fin_after {tv cv hv ov : Value} {n : Int} {f : Nat → Nat} {m gm i : Nat} (h : i < 12) : nthV (finC tv cv n f hv m ov gm).toList (3 + i) = some (.int .u16 (f i)) := by
  have : i = 0 ∨ i = 1 ∨ i = 2 ∨ i = 3 ∨ i = 4 ∨ i = 5 ∨ i = 6 ∨ i = 7 ∨ i = 8 ∨ i = 9 ∨ i = 10 ∨ i = 11 := by omega
  rcases this with rfl | rfl | rfl | rfl | rfl | rfl | rfl | rfl | rfl | rfl | rfl | rfl <;> rfl
theorem callAt_eq {cs : List Cl} {i : Nat} (h : i < cs.length) : callAt cs i = cs[i] := by simp [callAt, List.getD_eq_getElem?_getD, h]
section
variable (B : Option Addr) (d : Nat) (cs : List Cl) (gf m : Nat) (w : World)
set_option maxRecDepth 100000 in
theorem complete_any (hlt : gf < w.heap.size) (h1 : w.cell? ⟨gf, 1, none⟩ = some (.slice B cs.length d)) (h16 : w.cell? ⟨gf, 16, none⟩ = some (.int .u16 (m : Nat))) (hB : RdCl w B cs) (hm : m < 65536) (hl : cs.length ≤ 16) :
    Calls Tryz.prog 133 #[.pointer (some ⟨gf, 0, none⟩)] w fun e w' => e = .returned (.bool (compM cs m)) ∧ Below w.heap.size w w' := by
  refine calls_T (S := []) [] Tryz.func133 rfl Tryz.ntmps133 (by simp) (Mem.nil _) ?_
  repeat' (first | ((first | with_reducible (first | apply TL_q | apply TD_q0 | apply TD_q1 | apply TD_q2 | apply TD_q3) | ((with_reducible (first | apply TD_q0y | apply TD_q1y)); exact rfl; exact rfl; (with_reducible exact rfl))); (first | ((with_reducible apply QS_load); exact rfl; exact Lds.rd1 (enc := hdEnc) hH (by simp) hkl hv) | ((with_reducible apply QS_toByte); exact rfl) | exact QS.auto | ((with_reducible apply QS_load); exact rfl; exact Lds.old hlt (by simp) (by assumption)) | ((with_reducible apply QS_toByte); exact rfl) | ((with_reducible apply QS_shr8I); exact rfl; exact rfl; assumption)); exact rfl) | refine GO ?_ | (refine GOE ?_; (first | rintro _ _ ⟨rfl, rfl⟩ | rintro _ _ ⟨g, rfl, rfl⟩ | rintro _ _ ⟨A', c', rfl, rfl⟩)) | (refine GO2 ?_ ?_ <;> (refine Zs ?_; intro h; try exact Zx)) | fail)
  refine T_loop (X := Nat) (fun k => [(10, .int .i64 (k : Nat)), (9, .int .i64 cs.length), (8, .slice B cs.length d), (0, .pointer (some ⟨gf, 0, none⟩))]) (fun _ => [])
    (fun k => k ≤ cs.length ∧ ∀ i, i < k → (callAt cs i).to ≠ -1 → m.testBit i = true) (fun k => cs.length - k) 0 ⟨by omega, fun i hi => by omega⟩ Ze (by exact SUBS) ?_
  rintro k ⟨hk, hno⟩
  by_cases hkl : k < cs.length
  · obtain ⟨b, o, rfl, _⟩ := RdE.open hB (by omega)
    have hc := callAt_eq hkl
    have hz := bitZ m k
    repeat' (first | ((first | with_reducible (first | apply TL_q | apply TD_q0 | apply TD_q1 | apply TD_q2 | apply TD_q3) | ((with_reducible (first | apply TD_q0y | apply TD_q1y)); exact rfl; exact rfl; (with_reducible exact rfl))); (first | ((with_reducible apply QS_load); exact rfl; exact Lds.rd1 (enc := hdEnc) hH (by simp) hkl hv) | ((with_reducible apply QS_toByte); exact rfl) | exact QS.auto | ((with_reducible apply QS_load); exact rfl; exact Lds.old hlt (by simp) (by assumption)) | ((with_reducible apply QS_toByte); exact rfl) | ((with_reducible apply QS_shr8I); exact rfl; exact rfl; assumption)); exact rfl) | refine GO ?_ | (refine GOE ?_; (first | rintro _ _ ⟨rfl, rfl⟩ | rintro _ _ ⟨g, rfl, rfl⟩ | rintro _ _ ⟨A', c', rfl, rfl⟩)) | (refine GO2 ?_ ?_ <;> (refine Zs ?_; intro h; try exact Zx)) | fail)
    · (refine At_ret Tryz.results133 rfl (fun w' hw => ?_))
      have hb := hz.1 (by assumption)
      have : compM cs m = false := by
        rw [Bool.eq_false_iff]
        intro h
        have := compM_iff.1 h k hkl (by rw [hc]; assumption)
        rw [hb] at this; cases this
      exact ⟨by rw [this]; rfl, hw.below0 rfl⟩
    · refine At_rounds (k + 1) ⟨hkl, fun i hi ht => ?_⟩ (by omega) Ze (by exact SUBS)
      by_cases e : i = k
      · subst e
        cases hb : m.testBit i with
        | true => rfl
        | false => exact absurd (hz.2 hb) (by assumption)
      · exact hno i (by omega) ht
    · refine At_rounds (k + 1) ⟨hkl, fun i hi ht => ?_⟩ (by omega) Ze (by exact SUBS)
      by_cases e : i = k
      · subst e; exact absurd (by rw [hc]; assumption) ht
      · exact hno i (by omega) ht
  · obtain rfl : k = cs.length := by omega
    repeat' (first | ((first | with_reducible (first | apply TL_q | apply TD_q0 | apply TD_q1 | apply TD_q2 | apply TD_q3) | ((with_reducible (first | apply TD_q0y | apply TD_q1y)); exact rfl; exact rfl; (with_reducible exact rfl))); (first | ((with_reducible apply QS_load); exact rfl; exact Lds.rd1 (enc := hdEnc) hH (by simp) hkl hv) | ((with_reducible apply QS_toByte); exact rfl) | exact QS.auto | ((with_reducible apply QS_load); exact rfl; exact Lds.old hlt (by simp) (by assumption)) | ((with_reducible apply QS_toByte); exact rfl) | ((with_reducible apply QS_shr8I); exact rfl; exact rfl; assumption)); exact rfl) | refine GO ?_ | (refine GOE ?_; (first | rintro _ _ ⟨rfl, rfl⟩ | rintro _ _ ⟨g, rfl, rfl⟩ | rintro _ _ ⟨A', c', rfl, rfl⟩)) | (refine GO2 ?_ ?_ <;> (refine Zs ?_; intro h; try exact Zx)) | fail)
    (refine At_ret Tryz.results133 rfl (fun w' hw => ?_))
    exact ⟨by rw [compM_iff.2 hno]; rfl, hw.below0 rfl⟩
end
/-- what is told of a row so far -/
def keyP (m : Nat) (sts : List (List Int)) (k : Nat) : List Nat := keyL m (sts.take k)
def rowP (s : List Int) (q : Nat) : List Nat := byteL s.length :: (s.take q).flatMap fun n => [byteL n, byteL (n / 256)]
theorem rowP_succ {s : List Int} {q : Nat} (h : q < s.length) : rowP s q ++ [byteL s[q], byteL (s[q] / 256)] = rowP s (q + 1) := by
  unfold rowP
  rw [List.take_succ_eq_append_getElem h, List.flatMap_append]
  simp only [List.cons_append, List.flatMap_cons, List.flatMap_nil, List.append_nil]
theorem keyP_succ {m : Nat} {sts : List (List Int)} {k : Nat} (h : k < sts.length) : keyP m sts k ++ rowP sts[k] sts[k].length = keyP m sts (k + 1) := by
  unfold keyP keyL rowP
  rw [List.take_succ_eq_append_getElem h, List.flatMap_append, List.take_length]
  simp only [List.append_assoc, List.flatMap_cons, List.flatMap_nil, List.append_nil, rowKey]
theorem rowP_len {s : List Int} {q : Nat} : (rowP s q).length ≤ 1 + 2 * s.length := by
  have : ∀ l : List Int, (l.flatMap fun n => [byteL n, byteL (n / 256)]).length = 2 * l.length := by
    intro l
    induction l with
    | nil => rfl
    | cons x l ih => rw [List.flatMap_cons, List.length_append, ih]; simp; omega
  rw [rowP, List.length_cons, this, List.length_take]; omega
theorem keyP_len {m : Nat} {sts : List (List Int)} (hv : ∀ s ∈ sts, s.length ≤ 50 ∧ ∀ x ∈ s, 0 ≤ x ∧ x ≤ 1000) : ∀ {k : Nat}, k ≤ sts.length → (keyP m sts k).length ≤ 2 + 101 * k
  | 0, _ => by simp [keyP, keyL]
  | k + 1, h => by
    rw [← keyP_succ (show k < sts.length by omega), List.length_append]
    have h1 := keyP_len (m := m) hv (k := k) (by omega)
    have h2 := rowP_len (s := sts[k]) (q := sts[k].length)
    have h3 := (hv sts[k] (List.getElem_mem _)).1
    omega
section
variable (H : Option Addr) (hc : Nat) (hs : List Hd) (sts : List (List Int)) (gf m : Nat) (w : World)
set_option maxRecDepth 100000 in
set_option maxHeartbeats 1000000 in
theorem key_any (hlt : gf < w.heap.size) (h15 : w.cell? ⟨gf, 15, none⟩ = some (.slice H hs.length hc)) (h16 : w.cell? ⟨gf, 16, none⟩ = some (.int .u16 (m : Nat))) (hm : m < 65536)
    (hH : RdE hdEnc 1 w H hs) (hlen : hs.length = sts.length) (hrow : ∀ j (h1 : j < hs.length) (h2 : j < sts.length), hs[j].n = sts[j].length ∧ RdInt w hs[j].a sts[j])
    (hlt4 : sts.length ≤ 4) (hval : ∀ s ∈ sts, s.length ≤ 50 ∧ ∀ x ∈ s, 0 ≤ x ∧ x ≤ 1000) :
    Calls Tryz.prog 134 #[.pointer (some ⟨gf, 0, none⟩)] w fun e w' => e = .returned (.string (bytesOf (keyL m sts))) ∧ Below w.heap.size w w' := by
  refine calls_T (S := []) [] Tryz.func134 rfl Tryz.ntmps134 (by simp) (Mem.nil _) ?_
  repeat' (first | ((first | with_reducible (first | apply TL_q | apply TD_q0 | apply TD_q1 | apply TD_q2 | apply TD_q3) | ((with_reducible (first | apply TD_q0y | apply TD_q1y)); exact rfl; exact rfl; (with_reducible exact rfl))); (first | ((with_reducible apply QS_load); exact rfl; exact Lds.rd1 (enc := hdEnc) hH (by simp) hkl hv) | ((with_reducible apply QS_toByte); exact rfl) | exact QS.auto | ((with_reducible apply QS_load); exact rfl; exact Lds.old hlt (by simp) (by assumption)) | ((with_reducible apply QS_toByte); exact rfl) | ((with_reducible apply QS_shr8I); exact rfl; exact rfl; assumption)); exact rfl) | refine GG ?_ | (refine GE ?_; (first | rintro _ _ ⟨rfl, rfl⟩ | rintro _ _ ⟨g, rfl, rfl⟩ | rintro _ _ ⟨A', c', rfl, rfl⟩); (try refine ⟨SUB, ?_⟩)) | (refine GO2 ?_ ?_ <;> (refine Zs ?_; intro h; try exact Zx)) | refine GOF ?_ ?_ | ((with_reducible apply T_draw (id := 1) 1000 (OT.seq [(0, 0), (0, 1), (0, 2), (0, 5), (0, 6), (0, 7), (1, 3), (0, 4), (1, 8), (0, 9), (0, 10), (2, 11), (0, 12)] .nil)); kernel_rfl; exact rfl; kernel_rfl; (repeat (first | with_reducible exact Blind.body | with_reducible apply Blind.seq | with_reducible apply Blind.block))) | fail)
  obtain ⟨g0, rfl⟩ : ∃ x, x = g := ⟨_, rfl⟩
  refine T_mem (fun w hw => Mem.asOwn (enc := byEnc) (M := 1) (keyP m sts 0) Zu rfl (fun _ => rfl) (by show 2 ≤ maxLen; decide) hw) ?_
  refine T_loop (X := Nat × Option Addr × Nat) (fun x => [(25, .int .i64 (x.1 : Nat)), (24, .int .i64 hs.length), (23, .slice H hs.length hc), (3, .slice x.2.1 (keyP m sts x.1).length x.2.2)])
    (fun x => [entOwn byEnc 1 5 x.2.1 x.2.2 (keyP m sts x.1)]) (fun x => x.1 ≤ sts.length) (fun x => sts.length - x.1) (0, some ⟨g0, 0, none⟩, 2) (by simp) Ze (by exact SUBS) ?_
  rintro ⟨k, A1, c1⟩ hk
  dsimp only at hk ⊢
  have hkb := keyP_len (m := m) hval hk
  by_cases hks : k < sts.length
  · have hkl : k < hs.length := by omega
    obtain ⟨bh, oh, rfl, _⟩ := RdE.open hH (by omega)
    obtain ⟨hn, hR⟩ := hrow k hkl hks
    obtain ⟨aR, cR, hh⟩ : ∃ aR cR, hs[k] = ⟨aR, sts[k].length, cR⟩ := ⟨hs[k].a, hs[k].c, by rw [← hn]⟩
    rw [hh] at hR
    dsimp only at hR
    have hv : (hdEnc hs[k])[0]? = some (.slice aR sts[k].length cR) := by rw [hh]; rfl
    have hb := hval sts[k] (List.getElem_mem hks)
    have hks2 := keyP_succ (m := m) hks
    generalize hP : keyP m sts k = P at *
    generalize hP2 : keyP m sts (k + 1) = P2 at *
    generalize sts[k] = row at *
    repeat' (first | ((first | with_reducible (first | apply TL_q | apply TD_q0 | apply TD_q1 | apply TD_q2 | apply TD_q3) | ((with_reducible (first | apply TD_q0y | apply TD_q1y)); exact rfl; exact rfl; (with_reducible exact rfl))); (first | ((with_reducible apply QS_load); exact rfl; exact Lds.rd1 (enc := hdEnc) hH (by simp) hkl hv) | ((with_reducible apply QS_toByte); exact rfl) | exact QS.auto | ((with_reducible apply QS_load); exact rfl; exact Lds.old hlt (by simp) (by assumption)) | ((with_reducible apply QS_toByte); exact rfl) | ((with_reducible apply QS_shr8I); exact rfl; exact rfl; assumption)); exact rfl) | refine GO ?_ | (refine GOE ?_; (first | rintro _ _ ⟨rfl, rfl⟩ | rintro _ _ ⟨g, rfl, rfl⟩ | rintro _ _ ⟨A', c', rfl, rfl⟩)) | (refine GO2 ?_ ?_ <;> (refine Zs ?_; intro h; try exact Zx)) | ((with_reducible (first | apply TD_e2z | apply TD_e3z | apply TL_e | apply TD_e2 | apply TD_e3)); ((with_reducible apply ES_append1 (enc := byEnc)); exact rfl; exact rfl; (repeat (first | with_reducible exact List.mem_cons_self | with_reducible apply List.mem_cons_of_mem)); exact rfl; exact fun _ => rfl; exact fun _ => rfl; (intro A' c'; first | ((repeat (first | with_reducible exact Upd.here _ _ _ | with_reducible apply Upd.there)); done) | (repeat (first | exact Upd.here _ _ _ | apply Upd.there))); (omega); decide; exact rfl); (first | exact rfl | exact ⟨rfl, rfl, rfl⟩); (rintro _ _ ⟨A', c', rfl, rfl⟩); (try refine ⟨SUB, ?_⟩)) | fail)
    refine T_loop (X := Nat × Option Addr × Nat) (fun x => [(37, .int .i64 (x.1 : Nat)), (36, .int .i64 row.length), (35, .slice aR row.length cR), (25, .int .i64 (k : Nat)), (24, .int .i64 hs.length), (23, .slice (some ⟨bh, oh, none⟩) hs.length hc), (3, .slice x.2.1 (P ++ rowP row x.1).length x.2.2)])
      (fun x => [entOwn byEnc 1 5 x.2.1 x.2.2 (P ++ rowP row x.1)]) (fun x => x.1 ≤ row.length) (fun x => row.length - x.1) (0, A', c') (by simp) Ze (by exact SUBS) ?_
    rintro ⟨q, A2, c2⟩ hq
    dsimp only at hq ⊢
    have hqb := rowP_len (s := row) (q := q)
    have hlb : (P ++ rowP row q).length ≤ 2000 := by rw [List.length_append]; omega
    by_cases hql : q < row.length
    · obtain ⟨br, orr, rfl, _⟩ := RdE.open hR (by omega)
      have hx := hb.2 row[q] (List.getElem_mem hql)
      have hsq := rowP_succ hql
      repeat' (first | ((first | with_reducible (first | apply TL_q | apply TD_q0 | apply TD_q1 | apply TD_q2 | apply TD_q3) | ((with_reducible (first | apply TD_q0y | apply TD_q1y)); exact rfl; exact rfl; (with_reducible exact rfl))); (first | ((with_reducible apply QS_load); exact rfl; exact Lds.rd1 (enc := hdEnc) hH (by simp) hkl hv) | ((with_reducible apply QS_toByte); exact rfl) | exact QS.auto | ((with_reducible apply QS_load); exact rfl; exact Lds.old hlt (by simp) (by assumption)) | ((with_reducible apply QS_toByte); exact rfl) | ((with_reducible apply QS_shr8I); exact rfl; exact rfl; assumption)); exact rfl) | refine GG ?_ | (refine GE ?_; (first | rintro _ _ ⟨rfl, rfl⟩ | rintro _ _ ⟨g, rfl, rfl⟩ | rintro _ _ ⟨A', c', rfl, rfl⟩); (try refine ⟨SUB, ?_⟩)) | (refine GO2 ?_ ?_ <;> (refine Zs ?_; intro h; try exact Zx)) | refine GOF ?_ ?_ | ((with_reducible apply T_draw (id := 1) 1000 (OT.seq [(0, 0), (0, 1), (0, 2), (0, 5), (0, 6), (0, 7), (1, 3), (0, 4), (1, 8), (0, 9), (0, 10), (2, 11), (0, 12)] .nil)); kernel_rfl; exact rfl; kernel_rfl; (repeat (first | with_reducible exact Blind.body | with_reducible apply Blind.seq | with_reducible apply Blind.block))) | ((with_reducible (first | apply TD_e2z | apply TD_e3z | apply TL_e | apply TD_e2 | apply TD_e3)); ((with_reducible apply ES_append (enc := byEnc) (xs := [byteL row[q], byteL (row[q] / 256)]) (ls := P ++ rowP row q)); exact rfl; exact rfl; exact Lies.blk Zm; exact fun _ => rfl; exact fun _ => rfl; (intro A' c'; first | ((repeat (first | with_reducible exact Upd.here _ _ _ | with_reducible apply Upd.there)); done) | (repeat (first | exact Upd.here _ _ _ | apply Upd.there))); (simp only [List.length_cons, List.length_nil]; omega); decide; exact rfl); (first | exact rfl | exact ⟨rfl, rfl, rfl⟩); (rintro _ _ ⟨A', c', rfl, rfl⟩); (try refine ⟨SUB, ?_⟩)) | fail)
      have e1 : P ++ rowP row q ++ [byteL row[q], byteL (row[q] / 256)] = P ++ rowP row (q + 1) := by rw [List.append_assoc, hsq]
      rw [e1]
      apply At_rounds (q + 1, A', c')
      case hE => exact Ze
      case hS => exact SUBS
      case hμ => (try dsimp only); omega
      case hp => (try dsimp only); omega
    · obtain rfl : q = row.length := by omega
      repeat' (first | ((first | with_reducible (first | apply TL_q | apply TD_q0 | apply TD_q1 | apply TD_q2 | apply TD_q3) | ((with_reducible (first | apply TD_q0y | apply TD_q1y)); exact rfl; exact rfl; (with_reducible exact rfl))); (first | ((with_reducible apply QS_load); exact rfl; exact Lds.rd1 (enc := hdEnc) hH (by simp) hkl hv) | ((with_reducible apply QS_toByte); exact rfl) | exact QS.auto | ((with_reducible apply QS_load); exact rfl; exact Lds.old hlt (by simp) (by assumption)) | ((with_reducible apply QS_toByte); exact rfl) | ((with_reducible apply QS_shr8I); exact rfl; exact rfl; assumption)); exact rfl) | refine GG ?_ | (refine GE ?_; (first | rintro _ _ ⟨rfl, rfl⟩ | rintro _ _ ⟨g, rfl, rfl⟩ | rintro _ _ ⟨A', c', rfl, rfl⟩); (try refine ⟨SUB, ?_⟩)) | (refine GO2 ?_ ?_ <;> (refine Zs ?_; intro h; try exact Zx)) | refine GOF ?_ ?_ | ((with_reducible apply T_draw (id := 1) 1000 (OT.seq [(0, 0), (0, 1), (0, 2), (0, 5), (0, 6), (0, 7), (1, 3), (0, 4), (1, 8), (0, 9), (0, 10), (2, 11), (0, 12)] .nil)); kernel_rfl; exact rfl; kernel_rfl; (repeat (first | with_reducible exact Blind.body | with_reducible apply Blind.seq | with_reducible apply Blind.block))) | fail)
      apply At_rounds (k + 1, A2, c2)
      case hE => rw [hks2] at *; rw [hP2]; exact Ze
      case hS => rw [hP2]; exact fun w hw => by rw [hks2] at hw; exact hw.sub (by first | ((repeat (first | with_reducible exact List.nil_sublist _ | with_reducible exact List.Sublist.refl _ | with_reducible apply List.Sublist.cons_cons | with_reducible apply List.Sublist.cons)); done) | (repeat (first | exact List.nil_sublist _ | exact List.Sublist.refl _ | apply List.Sublist.cons_cons | apply List.Sublist.cons)))
      case hμ => (try dsimp only); omega
      case hp => (try dsimp only); omega
  · obtain rfl : k = sts.length := by omega
    have e2 : keyP m sts sts.length = keyL m sts := by unfold keyP; rw [List.take_length]
    rw [e2]
    have h0 : 0 < (keyL m sts).length := by simp [keyL]
    generalize keyL m sts = L at *
    refine T_own (ls := L) Zm h0 ?_
    rintro gr rfl
    repeat' (first | ((first | with_reducible (first | apply TL_q | apply TD_q0 | apply TD_q1 | apply TD_q2 | apply TD_q3) | ((with_reducible (first | apply TD_q0y | apply TD_q1y)); exact rfl; exact rfl; (with_reducible exact rfl))); (first | ((with_reducible apply QS_load); exact rfl; exact Lds.rd1 (enc := hdEnc) hH (by simp) hkl hv) | ((with_reducible apply QS_toByte); exact rfl) | exact QS.auto | ((with_reducible apply QS_load); exact rfl; exact Lds.old hlt (by simp) (by assumption)) | ((with_reducible apply QS_toByte); exact rfl) | ((with_reducible apply QS_shr8I); exact rfl; exact rfl; assumption)); exact rfl) | refine GG ?_ | (refine GE ?_; (first | rintro _ _ ⟨rfl, rfl⟩ | rintro _ _ ⟨g, rfl, rfl⟩ | rintro _ _ ⟨A', c', rfl, rfl⟩); (try refine ⟨SUB, ?_⟩)) | (refine GO2 ?_ ?_ <;> (refine Zs ?_; intro h; try exact Zx)) | refine GOF ?_ ?_ | ((with_reducible apply TL_q); ((with_reducible apply QS_bytesStr (l := L)); exact Tryz.underlying9; exact rfl; (first | ((repeat (first | with_reducible exact List.mem_cons_self | with_reducible apply List.mem_cons_of_mem)); done) | (repeat (first | exact List.Mem.head _ | apply List.Mem.tail)))); exact rfl) | fail)
    (refine At_ret Tryz.results134 rfl (fun w' hw => ?_))
    exact ⟨rfl, hw.below0 rfl⟩
end
end Go.Proofs.YtjdckepbihcgfaaGreatDoor
