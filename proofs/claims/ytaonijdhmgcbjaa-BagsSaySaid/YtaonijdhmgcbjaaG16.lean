/- Lemmas for the walks (Ms, Stp, Sea1, Sea2, R). No condition. -/
import Derived.Test.YtaonijdhmgcbjaaG08
import Derived.Laws.BytesString
import Derived.Test.YtaonijdhmgcbjaaG04
import Derived.Test.YtaonijdhmgcbjaaG15
import Derived.Test.YtaonijdhmgcbjaaG07
import Derived.Test.YtaonijdhmgcbjaaG09
set_option linter.unusedSimpArgs false
set_option linter.unusedVariables false
set_option linter.unusedSectionVars false
set_option linter.unnecessarySimpa false
namespace Go.Proofs.Ytaonijdhmgcbjaa
open Go.RowKit

theorem beq_bytes (a b : ByteArray) : (a == b) = decide (a = b) := by
  show (a.data == b.data) = _
  rw [Bool.eq_iff_iff, beq_iff_eq, decide_eq_true_eq, ByteArray.ext_iff]
def bytesOf (l : List Nat) : ByteArray := l.foldl (fun r n => r.push (UInt8.ofNat n)) ByteArray.empty
theorem bytesOf_data (l : List Nat) : (bytesOf l).data.toList = l.map UInt8.ofNat := by
  have key : ∀ (l : List Nat) (r : ByteArray), (l.foldl (fun r n => r.push (UInt8.ofNat n)) r).data.toList = r.data.toList ++ l.map UInt8.ofNat := by
    intro l
    induction l with
    | nil => simp
    | cons n l ih => intro r; rw [List.foldl_cons, ih]; simp [ByteArray.push]
  rw [bytesOf, key]; simp
theorem bytesOf_inj {l l' : List Nat} (h : ∀ n ∈ l, n < 256) (h' : ∀ n ∈ l', n < 256) (he : bytesOf l = bytesOf l') : l = l' := by
  have h1 : l.map UInt8.ofNat = l'.map UInt8.ofNat := by rw [← bytesOf_data, ← bytesOf_data, he]
  have h2 := congrArg (List.map UInt8.toNat) h1
  rw [List.map_map, List.map_map] at h2
  have q : ∀ m : List Nat, (∀ n ∈ m, n < 256) → m.map (UInt8.toNat ∘ UInt8.ofNat) = m := fun m hm => by
    conv => rhs; rw [← List.map_id m]
    exact List.map_congr_left fun n hn => by simp; exact hm n hn
  rwa [q l h, q l' h'] at h2
class MapStr (P : Program) (t : Nat) (k e : outParam Nat) : Prop where
  und : P.underlying t = some (.map k e)
  key : P.underlying k = some .string
/-- a set of texts: the map's keys, each with true -/
def SetS (w : World) (g : Nat) (D : List ByteArray) : Prop := ∃ es cl, w.heap[g]? = some (.map es cl) ∧ es.toList.map (fun e => (e.key, e.val)) = D.map fun b => (Value.string b, Value.bool true)
def entSet (g : Nat) (D : List ByteArray) : Ent :=
  ⟨fun k => some g = some k, [g], fun k => by simp [eq_comm], fun w => SetS w g D, fun w w' h hp => by
    obtain ⟨es, cl, hg, hes⟩ := hp
    exact ⟨es, cl, (h g rfl).trans hg, hes⟩⟩
def hasB (D : List ByteArray) (b : ByteArray) : Bool := D.any fun x => decide (b = x)
def addB (D : List ByteArray) (b : ByteArray) : List ByteArray := if hasB D b = true then D else D ++ [b]
theorem hasB_iff {D : List ByteArray} {b : ByteArray} : hasB D b = true ↔ b ∈ D := by
  unfold hasB
  rw [List.any_eq_true]
  exact ⟨fun ⟨x, hx, h⟩ => by simp at h; subst h; exact hx, fun h => ⟨b, h, by simp⟩⟩
def findB (b : ByteArray) : List ByteArray → Nat → Option Nat
  | [], _ => none
  | x :: D, i => if b = x then some i else findB b D (i + 1)
theorem findB_has (b : ByteArray) : ∀ (D : List ByteArray) (i : Nat), (findB b D i).isSome = hasB D b
  | [], _ => rfl
  | x :: D, i => by
    unfold findB hasB
    rw [List.any_cons]
    by_cases h : b = x
    · simp [h]
    · simp only [if_neg h, h, decide_false, Bool.false_or]; exact findB_has b D (i + 1)
theorem findB_at (b : ByteArray) : ∀ (D : List ByteArray) (i j : Nat), findB b D i = some j → i ≤ j ∧ D[j - i]? = some b
  | [], _, _, h => by cases h
  | x :: D, i, j, h => by
    unfold findB at h
    split at h
    · rename_i e
      cases h; subst e; simp
    · obtain ⟨h1, h2⟩ := findB_at b D (i + 1) j h
      have e : j - i = (j - (i + 1)) + 1 := by omega
      exact ⟨by omega, by rw [e]; simpa using h2⟩
theorem findNow_str (b : ByteArray) : ∀ (es : List MapEntry) (D : List ByteArray) (i : Nat), es.map (fun e => (e.key, e.val)) = D.map (fun b => (Value.string b, Value.bool true)) →
    Instr.findNow .string (.string b) es i = some ((findB b D i).map fun j => (j, .bool true))
  | [], [], _, _ => rfl
  | [], p :: D, _, h => by simp at h
  | e :: es, [], _, h => by simp at h
  | e :: es, p :: D, i, h => by
    simp only [List.map_cons, List.cons.injEq, Prod.mk.injEq] at h
    obtain ⟨⟨h1, h2⟩, h3⟩ := h
    have ih := findNow_str b es D (i + 1) h3
    simp only [Instr.findNow, h1, Instr.sameNow, beq_bytes, findB]
    by_cases hx : b = p
    · subst hx; simp [h2]
    · simp only [hx, decide_false, if_false]
      exact ih
section
variable {P : Program} {C : Ctx} {E : Slots} {S S' : List Ent}
variable {d ty : Nat} {ps : String} {af : Array Edge} {g0 : Option (Nat × Bool)} {x y m : Operand} {t k e g : Nat} {b : ByteArray}
theorem run_checkStr [hm : MapStr P t k e] (z : Bool) (w : World) : (Instr.checkKey z 10000 k (.string b)).run P w = .ok () w := by
  unfold Instr.checkKey
  simp [run_underlying hm.key]
theorem run_findStr [hm : MapStr P t k e] (es : List MapEntry) (D : List ByteArray) (h : es.map (fun e => (e.key, e.val)) = D.map (fun b => (Value.string b, Value.bool true))) (w : World) :
    (Instr.findKey k (.string b) es).run P w = .ok ((findB b D 0).map fun j => (j, .bool true)) w := by
  unfold Instr.findKey
  simp [run_underlying hm.key, findNow_str b es D 0 h]
theorem run_lookStr [hm : MapStr P t k e] [hz : ZeroOf P e (.bool false)] {D : List ByteArray} {w : World} (hD : SetS w g D) :
    (Instr.lookup t (.map (some g)) (.string b) false).run P w = .ok (.bool (hasB D b)) w := by
  obtain ⟨es, cl, hg, hes⟩ := hD
  have hgo : (getObj g).run P w = .ok (.map es cl) w := by simp [getObj, Sem.run, hg]
  have h1 := run_checkStr (hm := hm) (b := b) es.isEmpty w
  have h2 := run_findStr (hm := hm) (b := b) es.toList D hes w
  have h3 := findB_has b D 0
  unfold Instr.lookup
  simp only [run_underlying hm.und, Sem.run_bind, Result.andThen_ok, hgo, Sem.run_pure, h1, h2]
  cases hf : findB b D 0 with
  | none =>
    rw [hf] at h3
    simp [hz.run w, ← h3]
  | some p =>
    rw [hf] at h3
    simp [← h3]
theorem run_updateStr [hm : MapStr P t k e] {D : List ByteArray} {w : World} (hD : SetS w g D) :
    ∃ w', (Instr.mapUpdate t (.map (some g)) (.string b) (.bool true)).run P w = .ok () w' ∧ SetS w' g (addB D b) ∧ Keeps [g] w w' := by
  obtain ⟨es, cl, hg, hes⟩ := hD
  have hlt : g < w.heap.size := (Array.getElem?_eq_some_iff.1 hg).1
  have hgo : (getObj g).run P w = .ok (.map es cl) w := by simp [getObj, Sem.run, hg]
  have h1 := run_checkStr (hm := hm) (b := b) false w
  have h2 := run_findStr (hm := hm) (b := b) es.toList D hes w
  have h3 := findB_has b D 0
  have hset : ∀ o : Obj, (setObj g o).run P w = .ok () { w with heap := w.heap.setIfInBounds g o } := fun o => by simp [setObj, Sem.run, hg]
  have hk : ∀ o : Obj, Keeps [g] w { w with heap := w.heap.setIfInBounds g o } := fun o => ⟨rfl, rfl, rfl, by simp, fun j _ hj => by
    simp only [List.mem_singleton] at hj
    exact Array.getElem?_setIfInBounds_ne (fun e => hj e.symm)⟩
  have hget : ∀ o : Obj, ({ w with heap := w.heap.setIfInBounds g o } : World).heap[g]? = some o := fun o => by simp [hlt]
  unfold Instr.mapUpdate
  simp only [run_underlying hm.und, Sem.run_bind, Result.andThen_ok, hgo, h1, h2]
  cases hf : findB b D 0 with
  | none =>
    rw [hf] at h3
    simp only [Option.map_none, hset]
    refine ⟨_, rfl, ⟨_, _, hget _, ?_⟩, hk _⟩
    rw [show addB D b = D ++ [b] from if_neg (by rw [← h3]; simp)]
    simp at hes ⊢
    exact hes
  | some i =>
    rw [hf] at h3
    obtain ⟨_, hu⟩ := findB_at b D 0 i hf
    rw [Nat.sub_zero] at hu
    have hi : i < es.size := by
      have h4 := congrArg List.length hes
      have h5 := (List.getElem?_eq_some_iff.1 hu).1
      simp at h4
      omega
    have hkv : (es[i].key, es[i].val) = (Value.string b, Value.bool true) := by
      have h6 : (es.toList.map fun e => (e.key, e.val))[i]? = some (es[i].key, es[i].val) := by simp [hi]
      rw [hes] at h6
      simp only [List.getElem?_map, hu, Option.map_some, Option.some.injEq] at h6
      exact h6.symm
    have hkey : es[i].key = .string b := (Prod.mk.inj hkv).1
    have hst : (Instr.keyThatStays (.string b) (.string b)).run P w = .ok (.string b) w := by
      unfold Instr.keyThatStays
      rw [if_pos (by simp [Instr.sameBits, beq_bytes])]
      rfl
    simp only [Option.map_some, Array.getElem?_eq_getElem hi, Option.getD_some, hkey, Sem.run_bind, hst, Result.andThen_ok, hset]
    refine ⟨_, rfl, ⟨_, _, hget _, ?_⟩, hk _⟩
    rw [show addB D b = D from if_pos (by rw [← h3]; simp), ← hes]
    apply List.ext_getElem?
    intro j
    simp only [Array.toList_modify, List.getElem?_map, List.getElem?_modify]
    by_cases e : i = j
    · subst e
      have : es.toList[i]? = some es[i] := by simp [hi]
      have hval : es[i].val = .bool true := (Prod.mk.inj hkv).2
      simp [this, hkey, hval]
    · simp only [if_neg e, id_map']
theorem ES_makeSet (hd : Nat.ble (d + 1) C.n = true) : ES P C E S ⟨some d, .makeMap t none, ty, ps, af, g0⟩ (fun E' S' => ∃ g, E' = (d, .map (some g)) :: E ∧ S' = entSet g [] :: S) := by
  refine (ES_core (fun u S' => ∃ g, u = .map (some g) ∧ S' = entSet g [] :: S) (fun a w ha hw => ?_) hd).weak (by rintro _ _ ⟨_, ⟨g, rfl, rfl⟩, rfl⟩; exact ⟨g, rfl, rfl⟩)
  refine ⟨_, _, _, ?_, hw.alloc (.map #[] 0) (e := entSet w.heap.size []) (fun _ h => h) ⟨#[], 0, heap_alloc_new w _, rfl⟩, _, rfl, rfl⟩
  simp [execOp, Instr.makeMap, newObj, Sem.run]
section
variable [hm : MapStr P t k e] (hx : evo E m = some (.map (some g))) (hy : evo E x = some (.string b))
include hm hx hy
theorem QS_lookStr {D : List ByteArray} [hz : ZeroOf P e (.bool false)] (hD : entSet g D ∈ S) : QS P C E S (.lookup t m x false) ty (.bool (hasB D b)) :=
  QS.of (fun a w ha hw => by
    have h := run_lookStr (hm := hm) (b := b) (hw.holds _ hD).1
    simp only [execOp, ha.evo hx, ha.evo hy, Sem.run_bind, h, Result.andThen_ok]; rfl)
theorem ES_updateStr {D : List ByteArray} (hu : Upd S (entSet g D) (entSet g (addB D b)) S') (hv : evo E y = some (.bool true)) : ES P C E S ⟨none, .mapUpdate t m x y, ty, ps, af, g0⟩ (fun E' T => E' = E ∧ T = S') := by
  refine (ES_skip (fun T => T = S') (fun a w ha hw => ?_)).weak (by rintro _ _ ⟨rfl, rfl⟩; exact ⟨rfl, rfl⟩)
  obtain ⟨w', hr, hD', hk⟩ := run_updateStr (hm := hm) (b := b) (hw.holds _ hu.mem).1
  refine ⟨w', S', by simp [execOp, ha.evo hx, ha.evo hy, ha.evo hv, hr], ?_, rfl⟩
  refine hw.upd hu hk (by simp [entSet]) (fun k hk' => ?_) hD'
  have : some g = some k := hk'
  cases this
  obtain ⟨es, cl, hg, _⟩ := hD'
  exact ⟨(Array.getElem?_eq_some_iff.1 hg).1, .inl rfl⟩
end
/-- bytes -/
def byEnc (n : Nat) : List Value := [.int .u8 (n : Nat)]
end
end Go.Proofs.Ytaonijdhmgcbjaa

namespace Go.Proofs.Ytaonijdhmgcbjaa
open Go.RowKit

structure Stp where
  call : Int
  res : Int
  deriving Inhabited, DecidableEq
def Stp.enc (s : Stp) : List Value := [.int .i64 s.call, .int .i64 s.res]
abbrev RdStp (w : World) (A : Option Addr) (l : List Stp) : Prop := RdE Stp.enc 2 w A l
end Go.Proofs.Ytaonijdhmgcbjaa

namespace Go.Proofs.Ytaonijdhmgcbjaa

/-! a search in general -/
section
variable {W : Type} (can : W → Nat → Bool) (nx : W → Nat → W) (comp : W → Bool) (k : Nat)
def srch : Nat → W → Option W
  | 0, w => if comp w = true then some w else none
  | n + 1, w => if comp w = true then some w else (List.range k).findSome? fun i => if can w i = true then srch n (nx w i) else none
def childS : Nat → W → Nat → Option W
  | 0, _, _ => none
  | n + 1, w, i => srch can nx comp k n (nx w i)
def tryS (n : Nat) (w : W) (i : Nat) : Option W := if can w i = true then childS can nx comp k n w i else none
theorem findSome_none {α β : Type} {f : α → Option β} : ∀ {l : List α}, (∀ x ∈ l, f x = none) → l.findSome? f = none
  | [], _ => rfl
  | x :: l, h => by rw [List.findSome?_cons, h x (by simp)]; exact findSome_none fun y hy => h y (by simp [hy])
theorem findSome_congr {α β : Type} {f g : α → Option β} : ∀ {l : List α}, (∀ x ∈ l, f x = g x) → l.findSome? f = l.findSome? g
  | [], _ => rfl
  | x :: l, h => by rw [List.findSome?_cons, List.findSome?_cons, h x (by simp), findSome_congr fun y hy => h y (by simp [hy])]
theorem findSome_at {β : Type} {f : Nat → Option β} {r : β} {i k : Nat} (hi : i < k) (hno : ∀ j, j < i → f j = none) (h : f i = some r) : (List.range k).findSome? f = some r := by
  obtain ⟨d, rfl⟩ : ∃ d, k = i + (d + 1) := ⟨k - i - 1, by omega⟩
  rw [List.range_add, List.findSome?_append, findSome_none (fun x hx => hno x (List.mem_range.1 hx)), List.range_succ_eq_map]
  simp [h]
theorem findSome_no {β : Type} {f : Nat → Option β} {k : Nat} (hno : ∀ j, j < k → f j = none) : (List.range k).findSome? f = none :=
  findSome_none fun x hx => hno x (List.mem_range.1 hx)
theorem findSome_no_iff {β : Type} {f : Nat → Option β} {k : Nat} : (List.range k).findSome? f = none ↔ ∀ j, j < k → f j = none := by
  rw [List.findSome?_eq_none_iff]
  simp [List.mem_range]
theorem srch_eq (n : Nat) (w : W) : srch can nx comp k n w = if comp w = true then some w else (List.range k).findSome? (tryS can nx comp k n w) := by
  cases n with
  | zero =>
    rw [srch, findSome_no (fun j _ => by unfold tryS childS; split <;> rfl)]
  | succ n =>
    rw [srch]; rfl
theorem srch_comp {n : Nat} {w : W} (h : comp w = true) : srch can nx comp k n w = some w := by rw [srch_eq, if_pos h]
theorem srch_some {n i : Nat} {w r : W} (h : ¬ comp w = true) (hi : i < k) (hno : ∀ j, j < i → tryS can nx comp k n w j = none) (hr : tryS can nx comp k n w i = some r) : srch can nx comp k n w = some r := by
  rw [srch_eq, if_neg h]; exact findSome_at hi hno hr
theorem srch_none {n : Nat} {w : W} (h : ¬ comp w = true) (hno : ∀ j, j < k → tryS can nx comp k n w j = none) : srch can nx comp k n w = none := by
  rw [srch_eq, if_neg h]; exact findSome_no hno
end
section
variable {W : Type} {can can' : W → Nat → Bool} {nx : W → Nat → W} {comp : W → Bool} {k : Nat}
theorem srch_stuck {B : W → Prop} (h1 : ∀ w, B w → comp w = false) (h2 : ∀ w i, i < k → B w → can w i = true → B (nx w i)) : ∀ n w, B w → srch can nx comp k n w = none
  | 0, w, hB => by rw [srch, h1 w hB]; rfl
  | n + 1, w, hB => by
    rw [srch, h1 w hB, if_neg (by simp)]
    refine findSome_no fun j hj => ?_
    split
    · rename_i hc
      exact srch_stuck h1 h2 n _ (h2 w j hj hB hc)
    · rfl
/-- of two searches one tries more, but what it tries more leads nowhere -/
theorem srch_same {G B : W → Prop} (hG : ∀ w i, i < k → G w → can' w i = true → can w i = true ∧ G (nx w i)) (hB : ∀ w i, i < k → G w → can w i = true → can' w i = false → B (nx w i))
    (h1 : ∀ w, B w → comp w = false) (h2 : ∀ w i, i < k → B w → can w i = true → B (nx w i)) : ∀ n w, G w → srch can nx comp k n w = srch can' nx comp k n w
  | 0, w, _ => by rw [srch, srch]
  | n + 1, w, hw => by
    rw [srch, srch]
    split
    · rfl
    · refine findSome_congr fun i hi => ?_
      rw [List.mem_range] at hi
      by_cases hc' : can' w i = true
      · obtain ⟨hc, hn⟩ := hG w i hi hw hc'
        rw [if_pos hc, if_pos hc', srch_same hG hB h1 h2 n _ hn]
      · rw [if_neg hc']
        split
        · rename_i hc
          exact srch_stuck h1 h2 n _ (hB w i hi hw hc (by simpa using hc'))
        · rfl
theorem srch_none_congr {R : W → W → Prop} (h1 : ∀ w w', R w w' → comp w = comp w') (h2 : ∀ w w' i, i < k → R w w' → can w i = can w' i) (h3 : ∀ w w' i, i < k → R w w' → can w i = true → R (nx w i) (nx w' i)) :
    ∀ n w w', R w w' → (srch can nx comp k n w = none ↔ srch can nx comp k n w' = none)
  | 0, w, w', hR => by rw [srch, srch, h1 w w' hR]; split <;> simp
  | n + 1, w, w', hR => by
    rw [srch, srch, h1 w w' hR]
    split
    · simp
    · rw [findSome_no_iff, findSome_no_iff]
      refine forall_congr' fun i => forall_congr' fun hi => ?_
      rw [h2 w w' i hi hR]
      split
      · rename_i hc
        exact srch_none_congr h1 h2 h3 n _ _ (h3 w w' i hi hR (by rw [h2 w w' i hi hR]; exact hc))
      · simp
end

/-! masks -/
def unset (k m : Nat) : Nat := ((List.range k).filter fun i => !m.testBit i).length
theorem bit_put (m i j : Nat) : (m ||| 2 ^ i).testBit j = (m.testBit j || decide (i = j)) := by
  rw [Nat.testBit_or, Nat.testBit_two_pow]
theorem unset_put {k m i : Nat} (hi : i < k) (h : m.testBit i = false) : unset k (m ||| 2 ^ i) + 1 = unset k m := by
  unfold unset
  have key : ∀ n, ((List.range n).filter fun j => !(m ||| 2 ^ i).testBit j).length + (if i < n then 1 else 0) = ((List.range n).filter fun j => !m.testBit j).length := by
    intro n
    induction n with
    | zero => simp
    | succ n ih =>
      rw [List.range_succ, List.filter_append, List.filter_append, List.length_append, List.length_append]
      by_cases e : i = n
      · subst e
        have h1 : (m ||| 2 ^ i).testBit i = true := by rw [bit_put]; simp
        simp [h, h1] at ih ⊢
        exact ih
      · have h1 : (m ||| 2 ^ i).testBit n = m.testBit n := by rw [bit_put]; simp [e]
        have h2 : (i < n + 1) ↔ i < n := by omega
        simp only [List.filter_cons, List.filter_nil, h1, h2]
        omega
  have := key k
  rw [if_pos hi] at this
  exact this
theorem unset_0 (k : Nat) : unset k 0 = k := by
  unfold unset
  rw [List.filter_eq_self.2 (by simp)]
  simp
theorem and_zero_iff (a b : Nat) : a &&& b = 0 ↔ ∀ j, a.testBit j = true → b.testBit j = false := by
  constructor
  · intro h j ha
    have : (a &&& b).testBit j = false := by rw [h]; simp
    rw [Nat.testBit_and, ha] at this
    simpa using this
  · intro h
    refine Nat.eq_of_testBit_eq fun j => ?_
    rw [Nat.testBit_and, Nat.zero_testBit]
    cases ha : a.testBit j with
    | false => rfl
    | true => rw [h j ha]; rfl

/-! lists of steps, and what stands behind them -/
section
variable (ts : List Int) (cs : List Cl) (f : Nat → Nat)
def maskW (w : List Stp) : Nat := w.foldl (fun m s => m ||| 2 ^ s.call.toNat) 0
def callAt (i : Nat) : Cl := cs.getD i default
def typAt (t : Int) : Int := ts.getD t.toNat 0
def stepSt (sts : List (List Int)) (i : Nat) : Res := stepP (typAt ts (callAt cs i).thing) (sts.getD (callAt cs i).thing.toNat []) (callAt cs i).kind (callAt cs i).arg
def statesW (w : List Stp) : List (List Int) := w.foldl (fun sts s => sts.set (callAt cs s.call.toNat).thing.toNat (stepSt ts cs sts s.call.toNat).1) (ts.map begL)
def nextW (w : List Stp) (i : Nat) : List Stp := w ++ [⟨(i : Int), (stepSt ts cs (statesW ts cs w) i).2.1⟩]
def fitsSt (sts : List (List Int)) (i : Nat) : Bool := decide ((stepSt ts cs sts i).2.2 = 0) && (decide ((callAt cs i).to = -1) || decide ((stepSt ts cs sts i).2.1 = (callAt cs i).res))
def canC (w : List Stp) (i : Nat) : Bool := (!(maskW w).testBit i && decide (f i &&& maskW w = 0)) && fitsSt ts cs (statesW ts cs w) i
def canR (w : List Stp) (i : Nat) : Bool := (!(maskW w).testBit i && fitsSt ts cs (statesW ts cs w) i) && (List.range cs.length).all fun j => !(f j).testBit i || (maskW w).testBit j
def compM (m : Nat) : Bool := (List.range cs.length).all fun i => decide ((callAt cs i).to = -1) || m.testBit i
def compW (w : List Stp) : Bool := compM cs (maskW w)
def srchC (n : Nat) (w : List Stp) : Option (List Stp) := srch (canC ts cs f) (nextW ts cs) (compW cs) cs.length n w
def srchR (n : Nat) (w : List Stp) : Option (List Stp) := srch (canR ts cs f) (nextW ts cs) (compW cs) cs.length n w
theorem maskW_snoc (w : List Stp) (s : Stp) : maskW (w ++ [s]) = maskW w ||| 2 ^ s.call.toNat := by simp [maskW, List.foldl_append]
theorem maskW_next (w : List Stp) (i : Nat) : maskW (nextW ts cs w i) = maskW w ||| 2 ^ i := by simp [nextW, maskW_snoc]
theorem statesW_snoc (w : List Stp) (s : Stp) : statesW ts cs (w ++ [s]) = (statesW ts cs w).set (callAt cs s.call.toNat).thing.toNat (stepSt ts cs (statesW ts cs w) s.call.toNat).1 := by simp [statesW, List.foldl_append]
theorem statesW_next (w : List Stp) (i : Nat) : statesW ts cs (nextW ts cs w i) = (statesW ts cs w).set (callAt cs i).thing.toNat (stepSt ts cs (statesW ts cs w) i).1 := by simp [nextW, statesW_snoc]
theorem mask_bit (w : List Stp) (i : Nat) : (maskW w).testBit i = w.any fun s => decide (s.call.toNat = i) := by
  have key : ∀ (w : List Stp) (m : Nat), (w.foldl (fun m s => m ||| 2 ^ s.call.toNat) m).testBit i = (m.testBit i || w.any fun s => decide (s.call.toNat = i)) := by
    intro w
    induction w with
    | nil => simp
    | cons s w ih => intro m; rw [List.foldl_cons, ih, bit_put, List.any_cons, Bool.or_assoc]
  rw [maskW, key]; simp
def RelOk (cs : List Cl) (f : Nat → Nat) : Prop := ∀ i j, (f i).testBit j = true → i < cs.length ∧ j < cs.length ∧ i ≠ j ∧ (callAt cs i).to ≠ -1
def StsOk (sts : List (List Int)) : Prop := sts.length = ts.length ∧ ∀ t, t < ts.length → chkS (ts.getD t 0) (sts.getD t []) = 0
def CallsOk : Prop := ∀ i, i < cs.length → 0 ≤ (callAt cs i).thing ∧ (callAt cs i).thing < ts.length ∧ (kindsL (typAt ts (callAt cs i).thing)).contains (callAt cs i).kind = true ∧ argB (callAt cs i).kind (callAt cs i).arg = true
structure PathW (w : List Stp) : Prop where
  len : w.length + unset cs.length (maskW w) = cs.length
  calls : ∀ s ∈ w, 0 ≤ s.call ∧ s.call.toNat < cs.length
  sts : StsOk ts (statesW ts cs w)
variable {ts cs f}
theorem CallsOk.of {i : Int} (h : ClsOk ts i cs) : CallsOk ts cs := fun q hq => by
  have h1 := h.each q hq
  have e : callAt cs q = cs[q] := by simp [callAt, List.getD_eq_getElem?_getD, hq]
  rw [e]
  exact ⟨h1.thing.1, h1.thing.2, h1.kind, h1.arg⟩
theorem path_nil (hts : typesOk ts = true) : PathW ts cs [] := by
  refine ⟨by simp [maskW, unset_0], by simp, by simp [statesW], fun t ht => ?_⟩
  have e : (statesW ts cs []).getD t [] = begL (ts.getD t 0) := by simp [statesW, List.getD_eq_getElem?_getD, ht]
  rw [e]
  refine begL_ok ?_
  have h1 : ts.getD t 0 = ts[t] := by simp [List.getD_eq_getElem?_getD, ht]
  rw [h1]
  unfold typesOk at hts
  rw [Bool.and_eq_true, Bool.not_eq_true'] at hts
  have h2 := List.any_eq_false.1 hts.2 ts[t] (List.getElem_mem ht)
  unfold badT at h2
  unfold typB
  simp only [decide_eq_true_eq] at h2
  rw [Bool.and_eq_true, decide_eq_true_eq, decide_eq_true_eq]
  omega
theorem step_fit (hc : CallsOk ts cs) {i : Nat} (hi : i < cs.length) : fitB (typAt ts (callAt cs i).thing) (callAt cs i).kind := kinds_fit (hc i hi).2.2.1
theorem stepO_is (hc : CallsOk ts cs) {sts : List (List Int)} (hs : StsOk ts sts) {i : Nat} (hi : i < cs.length) :
    stepO (typAt ts (callAt cs i).thing) (sts.getD (callAt cs i).thing.toNat []) (callAt cs i).kind (callAt cs i).arg = stepSt ts cs sts i := by
  obtain ⟨h1, h2, h3, h4⟩ := hc i hi
  unfold stepO stepSt
  have hck : chkS (typAt ts (callAt cs i).thing) (sts.getD (callAt cs i).thing.toNat []) = 0 := hs.2 _ (by omega)
  rw [if_pos hck, if_pos (by rw [h3, h4]; rfl)]
theorem stsOk_set (hc : CallsOk ts cs) {sts : List (List Int)} (hs : StsOk ts sts) {i : Nat} (hi : i < cs.length) (he : (stepSt ts cs sts i).2.2 = 0) : StsOk ts (sts.set (callAt cs i).thing.toNat (stepSt ts cs sts i).1) := by
  obtain ⟨h1, h2, h3, h4⟩ := hc i hi
  refine ⟨by rw [List.length_set]; exact hs.1, fun t ht => ?_⟩
  by_cases e : (callAt cs i).thing.toNat = t
  · subst e
    have : (sts.set (callAt cs i).thing.toNat (stepSt ts cs sts i).1).getD (callAt cs i).thing.toNat [] = (stepSt ts cs sts i).1 := by
      simp [List.getD_eq_getElem?_getD, hs.1, ht]
    rw [this]
    exact step_valid (hs.2 _ ht) (step_fit hc hi) h4 he
  · have : (sts.set (callAt cs i).thing.toNat (stepSt ts cs sts i).1).getD t [] = sts.getD t [] := by
      simp [List.getD_eq_getElem?_getD, List.getElem?_set, e]
    rw [this]; exact hs.2 t ht
theorem path_next (hc : CallsOk ts cs) {w : List Stp} (h : PathW ts cs w) {i : Nat} (hi : i < cs.length) (hm : (maskW w).testBit i = false) (he : (stepSt ts cs (statesW ts cs w) i).2.2 = 0) : PathW ts cs (nextW ts cs w i) := by
  refine ⟨?_, fun s hs => ?_, ?_⟩
  · rw [maskW_next]
    have h1 := unset_put hi hm
    have h2 := h.len
    simp only [nextW, List.length_append, List.length_singleton]
    omega
  · rcases List.mem_append.1 hs with hs | hs
    · exact h.calls s hs
    · rw [List.mem_singleton] at hs; subst hs; exact ⟨by simp, by simpa using hi⟩
  · rw [statesW_next]; exact stsOk_set hc h.sts hi he
theorem mask_in {w : List Stp} (h : PathW ts cs w) {j : Nat} (hj : (maskW w).testBit j = true) : j < cs.length := by
  rw [mask_bit, List.any_eq_true] at hj
  obtain ⟨s, hs, hj⟩ := hj
  have := (h.calls s hs).2
  simp at hj; omega
theorem mask_lt {w : List Stp} (h : PathW ts cs w) : maskW w < 2 ^ cs.length := by
  refine Nat.lt_pow_two_of_testBit _ fun i hi => ?_
  rw [Bool.eq_false_iff]
  intro hb
  have := mask_in h hb
  omega
theorem compM_iff {m : Nat} : compM cs m = true ↔ ∀ i, i < cs.length → (callAt cs i).to ≠ -1 → m.testBit i = true := by
  unfold compM
  rw [List.all_eq_true]
  refine ⟨fun h i hi ht => by have := h i (List.mem_range.2 hi); simpa [ht] using this, fun h i hi => ?_⟩
  by_cases ht : (callAt cs i).to = -1
  · simp [ht]
  · simp [h i (List.mem_range.1 hi) ht]
theorem fitsSt_iff {sts : List (List Int)} {i : Nat} : fitsSt ts cs sts i = true ↔ (stepSt ts cs sts i).2.2 = 0 ∧ ((callAt cs i).to = -1 ∨ (stepSt ts cs sts i).2.1 = (callAt cs i).res) := by
  unfold fitsSt; simp
theorem canC_iff {w : List Stp} {i : Nat} : canC ts cs f w i = true ↔ (maskW w).testBit i = false ∧ f i &&& maskW w = 0 ∧ fitsSt ts cs (statesW ts cs w) i = true := by
  unfold canC; simp [and_assoc]
theorem canR_iff {w : List Stp} {i : Nat} : canR ts cs f w i = true ↔ (maskW w).testBit i = false ∧ fitsSt ts cs (statesW ts cs w) i = true ∧ ∀ j, j < cs.length → (f j).testBit i = true → (maskW w).testBit j = true := by
  unfold canR
  rw [Bool.and_eq_true, Bool.and_eq_true, List.all_eq_true, Bool.not_eq_true', and_assoc]
  refine and_congr_right fun _ => and_congr_right fun _ => ⟨fun h j hj hf => by have := h j (List.mem_range.2 hj); simpa [hf] using this, fun h j hj => ?_⟩
  cases hf : (f j).testBit i with
  | false => rfl
  | true => simp [h j (List.mem_range.1 hj) hf]
def ClosedW (f : Nat → Nat) (w : List Stp) : Prop := ∀ i j, (f i).testBit j = true → (maskW w).testBit j = true → (maskW w).testBit i = true
theorem closed_nil : ClosedW f [] := fun i j _ h => by simp [maskW] at h
theorem closed_next (hR : RelOk cs f) {w : List Stp} (h : ClosedW f w) {i : Nat} (hc : canR ts cs f w i = true) : ClosedW f (nextW ts cs w i) := by
  intro a b hf hb
  rw [maskW_next, bit_put, Bool.or_eq_true] at hb ⊢
  rcases hb with hb | hb
  · exact .inl (h a b hf hb)
  · simp only [decide_eq_true_eq] at hb
    subst hb
    exact .inl ((canR_iff.1 hc).2.2 a (hR _ _ hf).1 hf)
theorem canR_canC (hR : RelOk cs f) {w : List Stp} (h : ClosedW f w) {i : Nat} (hc : canR ts cs f w i = true) : canC ts cs f w i = true := by
  obtain ⟨h1, h2, h3⟩ := canR_iff.1 hc
  refine canC_iff.2 ⟨h1, ?_, h2⟩
  rw [and_zero_iff]
  intro j hj
  rw [Bool.eq_false_iff]
  intro hb
  have := h i j hj hb
  rw [h1] at this; cases this
/-- both searches answer alike -/
theorem srch_CR (hR : RelOk cs f) (n : Nat) {w : List Stp} (h : ClosedW f w) : srchC ts cs f n w = srchR ts cs f n w := by
  refine srch_same (G := ClosedW f) (B := fun w => ∃ i j, (f i).testBit j = true ∧ (maskW w).testBit j = true ∧ (maskW w).testBit i = false) ?_ ?_ ?_ ?_ n w h
  · intro w i _ hw hc
    exact ⟨canR_canC hR hw hc, closed_next hR hw hc⟩
  · intro w i hi hw hc hc'
    obtain ⟨h1, h2, h3⟩ := canC_iff.1 hc
    have hn : ¬ ∀ j, j < cs.length → (f j).testBit i = true → (maskW w).testBit j = true := fun hall => by
      rw [canR_iff.2 ⟨h1, h3, hall⟩] at hc'; cases hc'
    simp only [Classical.not_forall] at hn
    obtain ⟨j, hj, hf, hb⟩ := hn
    refine ⟨j, i, hf, by rw [maskW_next, bit_put]; simp, ?_⟩
    rw [maskW_next, bit_put, Bool.or_eq_false_iff]
    exact ⟨by simpa using hb, by simpa using fun e => (hR _ _ hf).2.2.1 e.symm⟩
  · rintro w ⟨i, j, hf, hj, hi⟩
    rw [Bool.eq_false_iff]
    intro hcomp
    have := (compM_iff.1 hcomp) i (hR _ _ hf).1 (hR _ _ hf).2.2.2
    rw [hi] at this; cases this
  · rintro w i _ ⟨a, b, hf, hb, ha⟩ hc
    obtain ⟨h1, h2, _⟩ := canC_iff.1 hc
    refine ⟨a, b, hf, by rw [maskW_next, bit_put, hb]; rfl, ?_⟩
    rw [maskW_next, bit_put, ha, Bool.false_or, decide_eq_false_iff_not]
    rintro rfl
    have := (and_zero_iff _ _).1 h2 b hf
    rw [hb] at this; cases this
theorem srchC_none_congr {w w' : List Stp} (hm : maskW w = maskW w') (hs : statesW ts cs w = statesW ts cs w') (n : Nat) : srchC ts cs f n w = none ↔ srchC ts cs f n w' = none := by
  refine srch_none_congr (R := fun w w' => maskW w = maskW w' ∧ statesW ts cs w = statesW ts cs w') ?_ ?_ ?_ n w w' ⟨hm, hs⟩
  · rintro w w' ⟨h1, _⟩
    unfold compW; rw [h1]
  · rintro w w' i _ ⟨h1, h2⟩
    unfold canC; rw [h1, h2]
  · rintro w w' i _ ⟨h1, h2⟩ _
    exact ⟨by rw [maskW_next, maskW_next, h1], by rw [statesW_next, statesW_next, h2]⟩
end

/-! what a state is remembered by -/
def byteL (x : Int) : Nat := (x % 256).toNat
def rowKey (s : List Int) : List Nat := byteL s.length :: s.flatMap fun n => [byteL n, byteL (n / 256)]
def keyL (m : Nat) (sts : List (List Int)) : List Nat := [byteL m, byteL ((m >>> 8 : Nat) : Int)] ++ sts.flatMap rowKey
theorem valid_bounds {typ : Int} {s : List Int} (h : chkS typ s = 0) : s.length ≤ 50 ∧ ∀ x ∈ s, 0 ≤ x ∧ x ≤ 1000 := by
  obtain ⟨_, h2, h3⟩ := chkS_ok h
  refine ⟨h2, fun x hx => ?_⟩
  have hall : s.all okI = true → 0 ≤ x ∧ x ≤ 1000 := fun ha => by
    have := List.all_eq_true.1 ha x hx
    simp only [okI, Bool.and_eq_true, decide_eq_true_eq] at this
    omega
  unfold validS at h3
  split at h3
  · unfold oneB at h3
    rw [Bool.and_eq_true, Bool.and_eq_true, decide_eq_true_eq, decide_eq_true_eq, decide_eq_true_eq] at h3
    obtain ⟨y, rfl⟩ := List.length_eq_one_iff.1 h3.1
    rw [List.mem_singleton] at hx; subst hx
    exact h3.2
  · split at h3
    · rw [Bool.and_eq_true] at h3; exact hall h3.2
    · exact hall h3
theorem byte_inj {x y : Int} (hx : 0 ≤ x ∧ x ≤ 1000) (hy : 0 ≤ y ∧ y ≤ 1000) (h1 : byteL x = byteL y) (h2 : byteL (x / 256) = byteL (y / 256)) : x = y := by
  unfold byteL at h1 h2; omega
theorem vals_inj : ∀ {s s' : List Int} {r r' : List Nat}, s.length = s'.length → (∀ x ∈ s, 0 ≤ x ∧ x ≤ 1000) → (∀ x ∈ s', 0 ≤ x ∧ x ≤ 1000) →
    (s.flatMap fun n => [byteL n, byteL (n / 256)]) ++ r = (s'.flatMap fun n => [byteL n, byteL (n / 256)]) ++ r' → s = s' ∧ r = r'
  | [], [], _, _, _, _, _, h => ⟨rfl, by simpa using h⟩
  | [], _ :: _, _, _, hl, _, _, _ => by simp at hl
  | _ :: _, [], _, _, hl, _, _, _ => by simp at hl
  | x :: s, y :: s', r, r', hl, hx, hy, h => by
    simp only [List.flatMap_cons, List.cons_append, List.nil_append, List.append_assoc, List.cons.injEq] at h
    obtain ⟨h1, h2, h3⟩ := h
    have e := byte_inj (hx x (by simp)) (hy y (by simp)) h1 h2
    obtain ⟨e2, e3⟩ := vals_inj (by simpa using hl) (fun z hz => hx z (by simp [hz])) (fun z hz => hy z (by simp [hz])) h3
    exact ⟨by rw [e, e2], e3⟩
theorem rows_inj : ∀ {sts sts' : List (List Int)}, sts.length = sts'.length → (∀ s ∈ sts, s.length ≤ 50 ∧ ∀ x ∈ s, 0 ≤ x ∧ x ≤ 1000) → (∀ s ∈ sts', s.length ≤ 50 ∧ ∀ x ∈ s, 0 ≤ x ∧ x ≤ 1000) →
    sts.flatMap rowKey = sts'.flatMap rowKey → sts = sts'
  | [], [], _, _, _, _ => rfl
  | [], _ :: _, hl, _, _, _ => by simp at hl
  | _ :: _, [], hl, _, _, _ => by simp at hl
  | s :: sts, s' :: sts', hl, h1, h2, h => by
    simp only [List.flatMap_cons, rowKey, List.cons_append, List.cons.injEq] at h
    have q1 := h1 s (by simp)
    have q2 := h2 s' (by simp)
    have h1' := h.1
    unfold byteL at h1'
    obtain ⟨e, er⟩ := vals_inj (by omega) q1.2 q2.2 h.2
    rw [e, rows_inj (by simpa using hl) (fun z hz => h1 z (by simp [hz])) (fun z hz => h2 z (by simp [hz])) er]
theorem stsOk_bounds {ts : List Int} {sts : List (List Int)} (h : StsOk ts sts) : ∀ s ∈ sts, s.length ≤ 50 ∧ ∀ x ∈ s, 0 ≤ x ∧ x ≤ 1000 := by
  intro s hs
  obtain ⟨t, ht, rfl⟩ := List.mem_iff_getElem.1 hs
  have := h.2 t (by rw [← h.1]; exact ht)
  have e : sts.getD t [] = sts[t] := by simp [List.getD_eq_getElem?_getD, ht]
  rw [e] at this
  exact valid_bounds this
theorem key_inj {ts : List Int} {m m' : Nat} {sts sts' : List (List Int)} (hm : m < 65536) (hm' : m' < 65536) (h : StsOk ts sts) (h' : StsOk ts sts') (he : keyL m sts = keyL m' sts') : m = m' ∧ sts = sts' := by
  simp only [keyL, List.cons_append, List.nil_append, List.cons.injEq, byteL, Nat.shiftRight_eq_div_pow] at he
  exact ⟨by omega, rows_inj (h.1.trans h'.1.symm) (stsOk_bounds h) (stsOk_bounds h') he.2.2⟩
theorem byteL_lt (x : Int) : byteL x < 256 := by unfold byteL; omega
theorem keyL_lt (m : Nat) (sts : List (List Int)) : ∀ n ∈ keyL m sts, n < 256 := by
  intro n hn
  unfold keyL at hn
  rcases List.mem_append.1 hn with hn | hn
  · simp only [List.mem_cons, List.not_mem_nil, or_false] at hn
    rcases hn with rfl | rfl <;> exact byteL_lt _
  · obtain ⟨s, _, hn⟩ := List.mem_flatMap.1 hn
    unfold rowKey at hn
    rcases List.mem_cons.1 hn with rfl | hn
    · exact byteL_lt _
    · obtain ⟨x, _, hn⟩ := List.mem_flatMap.1 hn
      simp only [List.mem_cons, List.not_mem_nil, or_false] at hn
      rcases hn with rfl | rfl <;> exact byteL_lt _
def keyW (ts : List Int) (cs : List Cl) (w : List Stp) : ByteArray := bytesOf (keyL (maskW w) (statesW ts cs w))
/-- what is remembered leads nowhere -/
def MemoOk (ts : List Int) (cs : List Cl) (f : Nat → Nat) (D : List ByteArray) : Prop := ∀ w, PathW ts cs w → keyW ts cs w ∈ D → srchC ts cs f (unset cs.length (maskW w)) w = none
theorem memo_nil (ts : List Int) (cs : List Cl) (f : Nat → Nat) : MemoOk ts cs f [] := fun w _ h => by simp at h
theorem memo_add {ts : List Int} {cs : List Cl} {f : Nat → Nat} {D : List ByteArray} (hk : cs.length ≤ 16) (hD : MemoOk ts cs f D) {w : List Stp} (hw : PathW ts cs w) (hn : srchC ts cs f (unset cs.length (maskW w)) w = none) : MemoOk ts cs f (addB D (keyW ts cs w)) := by
  intro v hv hm
  unfold addB at hm
  split at hm
  · exact hD v hv hm
  · rcases List.mem_append.1 hm with hm | hm
    · exact hD v hv hm
    · rw [List.mem_singleton] at hm
      have hm' := bytesOf_inj (keyL_lt _ _) (keyL_lt _ _) hm
      have p16 : 2 ^ cs.length ≤ 65536 := Nat.le_trans (Nat.pow_le_pow_right (by decide) hk) (by decide)
      obtain ⟨e1, e2⟩ := key_inj (Nat.lt_of_lt_of_le (mask_lt hv) p16) (Nat.lt_of_lt_of_le (mask_lt hw) p16) hv.sts hw.sts hm'
      rw [srchC_none_congr e1 e2, e1]
      exact hn
end Go.Proofs.Ytaonijdhmgcbjaa

namespace Go.Proofs.Ytaonijdhmgcbjaa

section
variable (ts : List Int) (cs : List Cl) (f : Nat → Nat)
def doOf (s : Stp) : Dn := ⟨(callAt cs s.call.toNat).kind, (callAt cs s.call.toNat).arg, s.res⟩
def ofThing (t : Int) (s : Stp) : Bool := decide ((callAt cs s.call.toNat).thing = t)
def dosOf (w : List Stp) (t : Int) : List Dn := (w.filter (ofThing cs t)).map (doOf cs)
def playsAt (w : List Stp) (t : Nat) : Bool := decide (playN (ts.getD t 0) (begL (ts.getD t 0)) (dosOf cs w t) = (dosOf cs w t).length)
def playsB (w : List Stp) : Bool := (List.range ts.length).all (playsAt ts cs w)
def inB (s : Stp) : Bool := decide (0 ≤ s.call) && decide (s.call < cs.length)
def resOk (s : Stp) : Bool := decide ((callAt cs s.call.toNat).to = -1) || decide (s.res = (callAt cs s.call.toNat).res)
def okR (m : Nat) (s : Stp) : Bool := (inB cs s && !m.testBit s.call.toNat) && resOk cs s
def okC (m : Nat) (s : Stp) : Bool := okR cs m s && decide (f s.call.toNat &&& m = 0)
def seqR (w : List Stp) : Bool := (List.range w.length).all fun i => okR cs (maskW (w.take i)) (w.getD i default)
def seqC (w : List Stp) : Bool := (List.range w.length).all fun i => okC cs f (maskW (w.take i)) (w.getD i default)
def validW (w : List Stp) : Bool := (seqC cs f w && compW cs w) && playsB ts cs w
def posW (w : List Stp) (j : Nat) : Int := if w.any (fun s => decide (s.call.toNat = j)) = true then (w.findIdx (fun s => decide (s.call.toNat = j)) : Int) else -1
def ordAt (w : List Stp) (i j : Nat) : Bool := !(f i).testBit j || (decide (posW w j < 0) || (decide (0 ≤ posW w i) && decide (posW w i ≤ posW w j)))
def ansAt (w : List Stp) (i : Nat) : Bool := decide ((callAt cs i).to = -1) || decide (0 ≤ posW w i)
def ordR (w : List Stp) : Bool := (List.range cs.length).all fun i => ansAt cs w i && (List.range cs.length).all (ordAt f w i)
def rightW (w : List Stp) : Bool := (seqR cs w && ordR cs f w) && playsB ts cs w
variable {ts cs f}
theorem posW_nn (w : List Stp) (j : Nat) : decide (0 ≤ posW w j) = (maskW w).testBit j := by
  rw [mask_bit]
  unfold posW
  cases w.any (fun s => decide (s.call.toNat = j)) <;> simp
theorem posW_get {w : List Stp} {j : Nat} (h : 0 ≤ posW w j) : ∃ p : Nat, posW w j = p ∧ ∃ hp : p < w.length, w[p].call.toNat = j := by
  unfold posW at h ⊢
  split at h
  · rename_i ha
    have hlt : w.findIdx (fun s => decide (s.call.toNat = j)) < w.length := List.findIdx_lt_length_of_exists (by simpa using ha)
    refine ⟨_, by rw [if_pos ha], hlt, ?_⟩
    have := List.findIdx_getElem (w := hlt)
    simpa using this
  · omega
theorem posW_le {w : List Stp} {j p : Nat} (hp : p < w.length) (h : w[p].call.toNat = j) : 0 ≤ posW w j ∧ posW w j ≤ p := by
  have ha : w.any (fun s => decide (s.call.toNat = j)) = true := List.any_eq_true.2 ⟨_, List.getElem_mem hp, by simpa using h⟩
  unfold posW
  rw [if_pos ha]
  refine ⟨by omega, ?_⟩
  have : ¬ p < w.findIdx (fun s => decide (s.call.toNat = j)) := fun hlt => by
    have := List.not_of_lt_findIdx hlt
    simp [h] at this
  omega
theorem bit_take {w : List Stp} {q j : Nat} : (maskW (w.take q)).testBit j = true ↔ ∃ p, ∃ hp : p < w.length, p < q ∧ w[p].call.toNat = j := by
  rw [mask_bit, List.any_eq_true]
  constructor
  · rintro ⟨s, hs, h⟩
    obtain ⟨p, hp, rfl⟩ := List.mem_iff_getElem.1 hs
    rw [List.length_take] at hp
    rw [List.getElem_take] at h
    exact ⟨p, by omega, by omega, by simpa using h⟩
  · rintro ⟨p, hp, hq, h⟩
    refine ⟨w[p], ?_, by simpa using h⟩
    rw [List.mem_iff_getElem]
    exact ⟨p, by rw [List.length_take]; omega, by rw [List.getElem_take]⟩
theorem getD_at {w : List Stp} {i : Nat} (h : i < w.length) : w.getD i default = w[i] := by simp [List.getD_eq_getElem?_getD, h]
theorem seqR_iff {w : List Stp} : seqR cs w = true ↔ ∀ i (h : i < w.length), okR cs (maskW (w.take i)) w[i] = true := by
  unfold seqR
  rw [List.all_eq_true]
  exact ⟨fun h i hi => by have := h i (List.mem_range.2 hi); rwa [getD_at hi] at this, fun h i hi => by rw [getD_at (List.mem_range.1 hi)]; exact h i (List.mem_range.1 hi)⟩
theorem seqC_iff {w : List Stp} : seqC cs f w = true ↔ ∀ i (h : i < w.length), okC cs f (maskW (w.take i)) w[i] = true := by
  unfold seqC
  rw [List.all_eq_true]
  exact ⟨fun h i hi => by have := h i (List.mem_range.2 hi); rwa [getD_at hi] at this, fun h i hi => by rw [getD_at (List.mem_range.1 hi)]; exact h i (List.mem_range.1 hi)⟩
theorem ordR_iff {w : List Stp} : ordR cs f w = true ↔ ∀ i, i < cs.length → ansAt cs w i = true ∧ ∀ j, j < cs.length → ordAt f w i j = true := by
  unfold ordR
  rw [List.all_eq_true]
  refine ⟨fun h i hi => ?_, fun h i hi => ?_⟩
  · have := h i (List.mem_range.2 hi)
    rw [Bool.and_eq_true, List.all_eq_true] at this
    exact ⟨this.1, fun j hj => this.2 j (List.mem_range.2 hj)⟩
  · rw [Bool.and_eq_true, List.all_eq_true]
    exact ⟨(h i (List.mem_range.1 hi)).1, fun j hj => (h i (List.mem_range.1 hi)).2 j (List.mem_range.1 hj)⟩
theorem okR_parts {m : Nat} {s : Stp} (h : okR cs m s = true) : 0 ≤ s.call ∧ s.call.toNat < cs.length ∧ m.testBit s.call.toNat = false ∧ resOk cs s = true := by
  unfold okR inB at h
  simp only [Bool.and_eq_true, decide_eq_true_eq, Bool.not_eq_true'] at h
  exact ⟨h.1.1.1, by omega, h.1.2, h.2⟩
/-- both say the same of an order -/
theorem valid_right (hR : RelOk cs f) (w : List Stp) : validW ts cs f w = rightW ts cs f w := by
  unfold validW rightW
  congr 1
  rw [Bool.eq_iff_iff, Bool.and_eq_true, Bool.and_eq_true, seqC_iff, seqR_iff, ordR_iff]
  have hcomp : compW cs w = true ↔ ∀ i, i < cs.length → ansAt cs w i = true := by
    unfold compW
    rw [compM_iff]
    refine forall_congr' fun i => forall_congr' fun _ => ?_
    unfold ansAt
    rw [posW_nn]
    by_cases ht : (callAt cs i).to = -1 <;> simp [ht]
  constructor
  · rintro ⟨h1, h2⟩
    have hr : ∀ i (h : i < w.length), okR cs (maskW (w.take i)) w[i] = true := fun i hi => by
      have := h1 i hi; unfold okC at this; rw [Bool.and_eq_true] at this; exact this.1
    refine ⟨hr, fun i hi => ⟨hcomp.1 h2 i hi, fun j hj => ?_⟩⟩
    unfold ordAt
    cases hf : (f i).testBit j with
    | false => rfl
    | true =>
      rw [Bool.not_true, Bool.false_or]
      by_cases hn : posW w j < 0
      · simp [hn]
      · have ha := hcomp.1 h2 i hi
        unfold ansAt at ha
        simp only [Bool.or_eq_true, decide_eq_true_eq] at ha
        have hi0 := ha.resolve_left (hR _ _ hf).2.2.2
        obtain ⟨p, hp, hpl, hpc⟩ := posW_get hi0
        obtain ⟨q, hq, hql, hqc⟩ := posW_get (w := w) (j := j) (by omega)
        have hle : posW w i ≤ posW w j := by
          by_cases hlt : q < p
          · exfalso
            have h3 := h1 p hpl
            unfold okC at h3
            rw [Bool.and_eq_true, decide_eq_true_eq, and_zero_iff, hpc] at h3
            have h4 := h3.2 j hf
            rw [bit_take.2 ⟨q, hql, hlt, hqc⟩] at h4; cases h4
          · omega
        simp [hi0, hle]
  · rintro ⟨h1, h2⟩
    refine ⟨fun i hi => ?_, hcomp.2 fun i hi => (h2 i hi).1⟩
    unfold okC
    rw [Bool.and_eq_true, decide_eq_true_eq, and_zero_iff]
    refine ⟨h1 i hi, fun j hf => ?_⟩
    rw [Bool.eq_false_iff]
    intro hb
    obtain ⟨p, hpl, hpi, hpc⟩ := bit_take.1 hb
    have h3 := (h2 _ (hR _ _ hf).1).2 j (hR _ _ hf).2.1
    unfold ordAt at h3
    rw [hf, Bool.not_true, Bool.false_or] at h3
    obtain ⟨q1, q2⟩ := posW_le hpl hpc
    have hn : ¬ posW w j < 0 := by omega
    simp only [hn, decide_false, Bool.false_or, Bool.and_eq_true, decide_eq_true_eq] at h3
    obtain ⟨r, hr, hrl, hrc⟩ := posW_get h3.1
    have h4 := (okR_parts (h1 i hi)).2.2.1
    rw [bit_take.2 ⟨r, hrl, by omega, hrc⟩] at h4
    cases h4

/-! what stands behind what was done -/
def afterP (typ : Int) (s : List Int) (l : List Dn) : List Int := l.foldl (fun s d => (stepP typ s d.kind d.arg).1) s
theorem afterP_snoc (typ : Int) (s : List Int) (l : List Dn) (d : Dn) : afterP typ s (l ++ [d]) = (stepP typ (afterP typ s l) d.kind d.arg).1 := by simp [afterP, List.foldl_append]
theorem goes_step {typ : Int} {s : List Int} {d : Dn} (h : goesO typ s d = true) : stepO typ s d.kind d.arg = stepP typ s d.kind d.arg ∧ (stepP typ s d.kind d.arg).2.2 = 0 ∧ (stepP typ s d.kind d.arg).2.1 = d.res := by
  unfold goesO at h
  simp only [decide_eq_true_eq] at h
  obtain ⟨_, _, _, h3⟩ := stepO_ok h.1
  rw [h3] at h
  exact ⟨h3, h⟩
theorem play_cons {typ : Int} {s : List Int} {d : Dn} {l : List Dn} (h : playN typ s (d :: l) = (d :: l).length) : goesO typ s d = true ∧ playN typ (stepP typ s d.kind d.arg).1 l = l.length := by
  rw [playN] at h
  split at h
  · rename_i hg
    refine ⟨hg, ?_⟩
    rw [(goes_step hg).1] at h
    simpa using h
  · simp at h
theorem playN_snoc {typ : Int} {d : Dn} : ∀ {l : List Dn} {s : List Int}, playN typ s l = l.length → playN typ s (l ++ [d]) = l.length + (if goesO typ (afterP typ s l) d = true then 1 else 0)
  | [], s, _ => by cases h : goesO typ s d <;> simp [playN, afterP, h]
  | x :: l, s, h => by
    obtain ⟨hg, hl⟩ := play_cons h
    rw [List.cons_append, playN, if_pos hg, (goes_step hg).1, playN_snoc hl, show afterP typ s (x :: l) = afterP typ (stepP typ s x.kind x.arg).1 l from rfl, List.length_cons]
    omega
theorem play_take {typ : Int} : ∀ {l : List Dn} {s : List Int} (q : Nat), playN typ s l = l.length → chkS typ s = 0 → chkS typ (afterP typ s (l.take q)) = 0
  | [], s, q, _, h0 => by simpa [afterP] using h0
  | x :: l, s, 0, _, h0 => by simpa [afterP] using h0
  | x :: l, s, q + 1, h, h0 => by
    obtain ⟨hg, hl⟩ := play_cons h
    have h1 := goes_ok hg
    rw [(goes_step hg).1] at h1
    exact play_take q hl h1
def ThingsNN (cs : List Cl) (w : List Stp) : Prop := ∀ s ∈ w, 0 ≤ (callAt cs s.call.toNat).thing
theorem state_at {t : Nat} : ∀ (w : List Stp) (sts : List (List Int)), ThingsNN cs w → t < sts.length →
    (w.foldl (fun sts s => sts.set (callAt cs s.call.toNat).thing.toNat (stepSt ts cs sts s.call.toNat).1) sts).getD t [] = afterP (ts.getD t 0) (sts.getD t []) (dosOf cs w t)
  | [], sts, _, _ => by simp [dosOf, afterP]
  | s :: w, sts, hn, ht => by
    have h0 := hn s (by simp)
    rw [List.foldl_cons, state_at w _ (fun x hx => hn x (by simp [hx])) (by rw [List.length_set]; exact ht)]
    by_cases e : (callAt cs s.call.toNat).thing = t
    · have e1 : (callAt cs s.call.toNat).thing.toNat = t := by omega
      have e2 : dosOf cs (s :: w) t = doOf cs s :: dosOf cs w t := by simp [dosOf, List.filter_cons, ofThing, e]
      have e3 : (sts.set (callAt cs s.call.toNat).thing.toNat (stepSt ts cs sts s.call.toNat).1).getD t [] = (stepP (ts.getD t 0) (sts.getD t []) (doOf cs s).kind (doOf cs s).arg).1 := by
        rw [e1]
        simp only [List.getD_eq_getElem?_getD, List.getElem?_set_self ht, Option.getD_some]
        simp only [stepSt, typAt, e1, doOf, List.getD_eq_getElem?_getD]
      rw [e2, e3]; rfl
    · have e1 : (callAt cs s.call.toNat).thing.toNat ≠ t := by omega
      have e2 : dosOf cs (s :: w) t = dosOf cs w t := by simp [dosOf, List.filter_cons, ofThing, e]
      have e3 : (sts.set (callAt cs s.call.toNat).thing.toNat (stepSt ts cs sts s.call.toNat).1).getD t [] = sts.getD t [] := by
        simp [List.getD_eq_getElem?_getD, List.getElem?_set, e1]
      rw [e2, e3]
theorem states_at {w : List Stp} (hn : ThingsNN cs w) {t : Nat} (ht : t < ts.length) : (statesW ts cs w).getD t [] = afterP (ts.getD t 0) (begL (ts.getD t 0)) (dosOf cs w t) := by
  unfold statesW
  rw [state_at w _ hn (by simpa using ht)]
  congr 1
  simp [List.getD_eq_getElem?_getD, ht]
theorem path_nn (hc : CallsOk ts cs) {w : List Stp} (h : PathW ts cs w) : ThingsNN cs w := fun s hs => (hc _ (h.calls s hs).2).1
/-- what the document goes through -/
structure GoodW (ts : List Int) (cs : List Cl) (f : Nat → Nat) (w : List Stp) : Prop where
  path : PathW ts cs w
  closed : ClosedW f w
  seq : seqC cs f w = true
  plays : playsB ts cs w = true
theorem good_nil (hts : typesOk ts = true) : GoodW ts cs f [] :=
  ⟨path_nil hts, closed_nil, rfl, by simp [playsB, playsAt, dosOf, playN]⟩
theorem good_next (hc : CallsOk ts cs) (hR : RelOk cs f) {w : List Stp} (h : GoodW ts cs f w) {i : Nat} (hi : i < cs.length) (hcan : canR ts cs f w i = true) : GoodW ts cs f (nextW ts cs w i) := by
  obtain ⟨h1, h2, h3⟩ := canR_iff.1 hcan
  obtain ⟨f1, f2⟩ := fitsSt_iff.1 h2
  have hcc := (canC_iff.1 (canR_canC hR h.closed hcan)).2.1
  have hp := path_next hc h.path hi h1 f1
  refine ⟨hp, closed_next hR h.closed hcan, ?_, ?_⟩
  · rw [seqC_iff]
    intro j hj
    have hlen : (nextW ts cs w i).length = w.length + 1 := by simp [nextW]
    by_cases e : j < w.length
    · have := seqC_iff.1 h.seq j e
      have e1 : (nextW ts cs w i)[j] = w[j] := by simp [nextW, List.getElem_append_left e]
      have e2 : (nextW ts cs w i).take j = w.take j := by simp only [nextW]; rw [List.take_append_of_le_length (by omega)]
      rw [e1, e2]; exact this
    · have ej : j = w.length := by omega
      subst ej
      have e1 : (nextW ts cs w i)[w.length] = ⟨(i : Int), (stepSt ts cs (statesW ts cs w) i).2.1⟩ := by simp [nextW]
      have e2 : (nextW ts cs w i).take w.length = w := by simp [nextW]
      rw [e1, e2]
      unfold okC okR inB resOk
      simp only [Int.toNat_natCast, h1, hcc, hi, Int.natCast_nonneg, Int.ofNat_lt, decide_true, Bool.and_self, Bool.not_false, Bool.true_and, Bool.and_true]
      rcases f2 with f2 | f2 <;> simp [f2]
  · unfold playsB at *
    rw [List.all_eq_true]
    intro t ht
    have ht' := List.mem_range.1 ht
    have hold := List.all_eq_true.1 h.plays t ht
    unfold playsAt at hold ⊢
    simp only [decide_eq_true_eq] at hold ⊢
    have hthing := hc i hi
    by_cases e : (callAt cs i).thing = t
    · have e2 : dosOf cs (nextW ts cs w i) t = dosOf cs w t ++ [⟨(callAt cs i).kind, (callAt cs i).arg, (stepSt ts cs (statesW ts cs w) i).2.1⟩] := by
        simp [dosOf, nextW, List.filter_append, List.filter_cons, ofThing, e, doOf]
      have e1 : (callAt cs i).thing.toNat = t := by omega
      have est := states_at (path_nn hc h.path) ht'
      rw [e2, playN_snoc hold, List.length_append, List.length_singleton, ← est, if_pos]
      have hso := stepO_is hc h.path.sts hi
      unfold typAt at hso
      rw [e1] at hso
      unfold goesO
      simp only [decide_eq_true_eq]
      rw [hso]
      exact ⟨f1, rfl⟩
    · have e2 : dosOf cs (nextW ts cs w i) t = dosOf cs w t := by
        simp [dosOf, nextW, List.filter_append, List.filter_cons, ofThing, e]
      rw [e2]; exact hold
theorem good_right (hR : RelOk cs f) {w : List Stp} (h : GoodW ts cs f w) : rightW ts cs f w = compW cs w := by
  rw [← valid_right hR, validW, h.seq, h.plays]; simp
end
end Go.Proofs.Ytaonijdhmgcbjaa

namespace Go.Proofs.Ytaonijdhmgcbjaa
open Go.RowKit

/-- a header: where a row lies -/
structure Hd where
  a : Option Addr
  n : Nat
  c : Nat
def Hd.v (h : Hd) : Value := .slice h.a h.n h.c
def hdEnc (h : Hd) : List Value := [.slice h.a h.n h.c]
inductive All2 {α β : Type} (R : α → β → Prop) : List α → List β → Prop
  | nil : All2 R [] []
  | cons {a : α} {b : β} {l : List α} {m : List β} (h : R a b) (t : All2 R l m) : All2 R (a :: l) (b :: m)
/-- the rows, each of its own -/
def Inner {α : Type} (enc : α → List Value) (M e : Nat) (w : World) (hs : List Hd) (rows : List (List α)) : Prop :=
  All2 (fun h l => h.n = l.length ∧ Own enc M e w 0 h.v l) hs rows ∧ hs.Pairwise fun h g => ∀ k, h.v.ownBlock = some k → g.v.ownBlock ≠ some k
theorem Own.same {α : Type} {enc : α → List Value} {M e : Nat} {w w' : World} {v : Value} {l : List α} (h : ∀ g, v.ownBlock = some g → w'.heap[g]? = w.heap[g]?) (hp : Own enc M e w 0 v l) : Own enc M e w' 0 v l := by
  refine ⟨hp.1, ?_⟩
  rcases hp.2 with hn | ⟨g, cap, cur, hv, hbb, hg, rest⟩
  · exact .inl hn
  · refine .inr ⟨g, cap, cur, hv, hbb, (h g ?_).trans hg, rest⟩
    rw [hv]; rfl
theorem forall2_mono {α β : Type} {R R' : α → β → Prop} : ∀ {l : List α} {m : List β}, All2 R l m → (∀ a ∈ l, ∀ b, R a b → R' a b) → All2 R' l m
  | _, _, .nil, _ => .nil
  | _, _, .cons h t, f => .cons (f _ List.mem_cons_self _ h) (forall2_mono t fun a ha b => f a (List.mem_cons_of_mem _ ha) b)
theorem forall2_append {α β : Type} {R : α → β → Prop} {a : α} {b : β} (h : R a b) : ∀ {l : List α} {m : List β}, All2 R l m → All2 R (l ++ [a]) (m ++ [b])
  | _, _, .nil => .cons h .nil
  | _, _, .cons h' t => .cons h' (forall2_append h t)
theorem forall2_len {α β : Type} {R : α → β → Prop} : ∀ {l : List α} {m : List β}, All2 R l m → l.length = m.length
  | _, _, .nil => rfl
  | _, _, .cons _ t => by simp [forall2_len t]
theorem forall2_at {α β : Type} {R : α → β → Prop} : ∀ {l : List α} {m : List β}, All2 R l m → ∀ i (h1 : i < l.length) (h2 : i < m.length), R l[i] m[i]
  | _, _, .nil, _, h, _ => by simp at h
  | _, _, .cons h' _, 0, _, _ => h'
  | _, _, .cons _ t, i + 1, h1, h2 => forall2_at t i (by simpa using h1) (by simpa using h2)
def entInner {α : Type} (enc : α → List Value) (M e : Nat) (hs : List Hd) (rows : List (List α)) : Ent :=
  ⟨fun k => ∃ h ∈ hs, h.v.ownBlock = some k, hs.filterMap fun h => h.v.ownBlock, fun k => by simp [List.mem_filterMap], fun w => Inner enc M e w hs rows, fun w w' h hp =>
    ⟨forall2_mono hp.1 fun a ha b hab => ⟨hab.1, hab.2.same fun g hg => h g ⟨a, ha, hg⟩⟩, hp.2⟩⟩
section
variable {C : Ctx} {w w' : World} {S S1 S' : List Ent} {α : Type} {enc : α → List Value} {M e : Nat} {hs : List Hd} {rows : List (List α)} {l : List α} {A : Option Addr} {c : Nat}
theorem Mem.nilInner (enc : α → List Value) (M e : Nat) (h : Mem C w S) : Mem C w (entInner enc M e [] [] :: S) :=
  h.fresh (e := entInner enc M e [] []) (Below.refl _ _) (fun g hg => by obtain ⟨a, ha, _⟩ := hg; simp at ha) ⟨.nil, .nil⟩
/-- a row more -/
theorem Mem.absorb (hp : Pick S (entOwn enc M e A c l) S1) (hu : Upd S1 (entInner enc M e hs rows) (entInner enc M e (hs ++ [⟨A, l.length, c⟩]) (rows ++ [l])) S') (hw : Mem C w S) : Mem C w S' := by
  have h1 := hw.pick hp
  obtain ⟨X, Y, rfl, rfl⟩ := hu.form
  have hap := List.pairwise_cons.1 h1.apart
  have hap2 := hap.2
  rw [List.pairwise_append, List.pairwise_cons] at hap2
  obtain ⟨hX, ⟨hY1, hY⟩, hXY⟩ := hap2
  have ho := h1.holds _ List.mem_cons_self
  have hin := h1.holds (entInner enc M e hs rows) (by simp)
  have hfar : ∀ k, (∃ h ∈ hs, h.v.ownBlock = some k) → (Value.slice A l.length c).ownBlock ≠ some k := fun k hk hk' => hap.1 (entInner enc M e hs rows) (by simp) k hk' hk
  have hhas : ∀ k, (entInner enc M e (hs ++ [⟨A, l.length, c⟩]) (rows ++ [l])).has k → (entInner enc M e hs rows).has k ∨ (entOwn enc M e A c l).has k := by
    rintro k ⟨h, hm, hk⟩
    rcases List.mem_append.1 hm with hm | hm
    · exact .inl ⟨h, hm, hk⟩
    · obtain rfl : h = ⟨A, l.length, c⟩ := by simpa using hm
      exact .inr hk
  refine ⟨h1.keeps, fun f hf => ?_, ?_⟩
  · rcases List.mem_append.1 hf with hf | hf
    · exact h1.holds f (by simp [hf])
    · rcases List.mem_cons.1 hf with rfl | hf
      · refine ⟨⟨forall2_append ⟨rfl, ho.1⟩ hin.1.1, ?_⟩, fun k hk => ?_⟩
        · rw [List.pairwise_append]
          refine ⟨hin.1.2, List.pairwise_singleton _ _, fun h hh g hg k hk => ?_⟩
          obtain rfl : g = ⟨A, l.length, c⟩ := by simpa using hg
          exact hfar k ⟨h, hh, hk⟩
        · rcases hhas k hk with h | h
          · exact hin.2 k h
          · exact ho.2 k h
      · exact h1.holds f (by simp [hf])
  · rw [List.pairwise_append, List.pairwise_cons]
    refine ⟨hX, ⟨fun f hf k hk => ?_, hY⟩, fun f hf g hg k hk => ?_⟩
    · rcases hhas k hk with h | h
      · exact hY1 f hf k h
      · exact hap.1 f (by simp [hf]) k h
    · rcases List.mem_cons.1 hg with rfl | hg
      · intro hk'
        rcases hhas k hk' with h | h
        · exact hXY f hf _ List.mem_cons_self k hk h
        · exact hap.1 f (by simp [hf]) k h hk
      · exact hXY f hf g (by simp [hg]) k hk
theorem Mem.innerRd (hw : Mem C w S) (hm : entInner enc M e hs rows ∈ S) (hM : ∀ x, (enc x).length = M) {j : Nat} (h1 : j < hs.length) (h2 : j < rows.length) : hs[j].n = rows[j].length ∧ RdE enc M w hs[j].a rows[j] := by
  have hp : Inner enc M e w hs rows := (hw.holds _ hm).1
  obtain ⟨hn, ho⟩ := forall2_at hp.1 j h1 h2
  refine ⟨hn, ?_⟩
  obtain ⟨A', c', hv, hr⟩ := Own.rd ho hM
  unfold Hd.v at hv
  simp only [Value.slice.injEq] at hv
  rw [hv.1]; exact hr
theorem Mem.innerLen (hw : Mem C w S) (hm : entInner enc M e hs rows ∈ S) : hs.length = rows.length := by
  have hp : Inner enc M e w hs rows := (hw.holds _ hm).1
  exact forall2_len hp.1
end
section
variable {P : Program} {C : Ctx} {E : Slots} {S : List Ent} {f d ty : Nat} {ps : String} {af : Array Edge} {g0 : Option (Nat × Bool)} {α : Type} {enc : α → List Value} {M e e2 : Nat} {rows : List (List α)}
end
end Go.Proofs.Ytaonijdhmgcbjaa
