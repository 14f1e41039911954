/- Lemmas for the walks (Fst, Tx2, T6, T7, M, F). No condition. -/
import Derived.Test.YtjdckepbihcgfaaGreatDoorG04
import Derived.Test.YtjdckepbihcgfaaGreatDoorG01
import Derived.Deep.AppendSrc
import Derived.WalkSpells
set_option linter.unusedSimpArgs false
set_option linter.unusedVariables false
set_option linter.unusedSectionVars false
set_option linter.unnecessarySimpa false
namespace Go.Proofs.YtjdckepbihcgfaaGreatDoor

def firstN (n : Nat) (P : Nat → Bool) : Option Nat := (List.range n).find? P
theorem firstN_none {n : Nat} {P : Nat → Bool} (h : ∀ i, i < n → P i = false) : firstN n P = none := by
  unfold firstN
  rw [List.find?_eq_none]
  intro i hi
  rw [h i (List.mem_range.1 hi)]; decide
theorem firstN_at {n i : Nat} {P : Nat → Bool} (hi : i < n) (h1 : ∀ j, j < i → P j = false) (h : P i = true) : firstN n P = some i := by
  unfold firstN
  rw [List.find?_range_eq_some]
  exact ⟨h, List.mem_range.2 hi, fun j hj => by rw [h1 j hj]; decide⟩
theorem firstN_some {n i : Nat} {P : Nat → Bool} (h : firstN n P = some i) : i < n ∧ P i = true ∧ ∀ j, j < i → P j = false := by
  unfold firstN at h
  rw [List.find?_range_eq_some] at h
  exact ⟨List.mem_range.1 h.2.1, h.1, fun j hj => by simpa using h.2.2 j hj⟩
def firstP (n : Nat) (m : Nat → Nat) (P : Nat → Nat → Bool) : Option (Nat × Nat) :=
  match firstN n (fun i => (firstN (m i) (P i)).isSome) with
  | none => none
  | some i => (firstN (m i) (P i)).map fun k => (i, k)
theorem firstP_none {n : Nat} {m : Nat → Nat} {P : Nat → Nat → Bool} (h : ∀ i, i < n → ∀ k, k < m i → P i k = false) : firstP n m P = none := by
  unfold firstP
  rw [firstN_none fun i hi => by rw [firstN_none (h i hi)]; rfl]
theorem firstP_at {n i k : Nat} {m : Nat → Nat} {P : Nat → Nat → Bool} (hi : i < n) (hk : k < m i) (h1 : ∀ j, j < i → ∀ q, q < m j → P j q = false) (h2 : ∀ q, q < k → P i q = false) (h : P i k = true) : firstP n m P = some (i, k) := by
  unfold firstP
  have e := firstN_at (P := P i) hk h2 h
  rw [firstN_at (i := i) hi (fun j hj => by rw [firstN_none (h1 j hj)]; rfl) (by rw [e]; rfl)]
  dsimp only
  rw [e]; rfl
theorem firstP_some {n i k : Nat} {m : Nat → Nat} {P : Nat → Nat → Bool} (h : firstP n m P = some (i, k)) : i < n ∧ k < m i ∧ P i k = true := by
  unfold firstP at h
  cases e : firstN n (fun i => (firstN (m i) (P i)).isSome) with
  | none => rw [e] at h; cases h
  | some a =>
    rw [e] at h
    dsimp only at h
    rw [Option.map_eq_some_iff] at h
    obtain ⟨b, h1, h2⟩ := h
    cases h2
    exact ⟨(firstN_some e).1, (firstN_some h1).1, (firstN_some h1).2.1⟩
end Go.Proofs.YtjdckepbihcgfaaGreatDoor

namespace Go.Proofs.YtjdckepbihcgfaaGreatDoor
open Go.RowKit Go.Lib

/-! words -/
def typeW : List Bs := [[], [114, 101, 103], [113, 117, 101, 117, 101], [115, 116, 97, 99, 107], [115, 101, 116], [116, 105, 99, 107, 101, 116]]
def kindW : List Bs := [[101, 110, 100], [119, 114, 105, 116, 101], [114, 101, 97, 100], [101, 110, 113], [100, 101, 113], [112, 117, 115, 104], [112, 111, 112], [97, 100, 100], [114, 101, 109, 111, 118, 101], [104, 97, 115], [116, 97, 107, 101]]
def thW : Bs := [116, 104, 105, 110, 103, 115]
/-- slices.Index -/
def idxB (ws : List Bs) (w : Bs) : Int := match (List.range ws.length).find? (fun i => decide (ws.getD i [] = w)) with | some i => (i : Int) | none => -1
theorem idxB_cases (ws : List Bs) (w : Bs) : idxB ws w = -1 ∨ ∃ i : Nat, idxB ws w = (i : Int) ∧ i < ws.length ∧ ws.getD i [] = w := by
  unfold idxB
  split
  · rename_i i h
    rw [List.find?_range_eq_some] at h
    exact .inr ⟨i, rfl, List.mem_range.1 h.2.1, of_decide_eq_true h.1⟩
  · exact .inl rfl
theorem idxB_at {ws : List Bs} (hd : ws.Nodup) {i : Nat} (hi : i < ws.length) : idxB ws (ws.getD i []) = (i : Int) := by
  have h : (List.range ws.length).find? (fun j => decide (ws.getD j [] = ws.getD i [])) = some i := by
    refine List.find?_range_eq_some.2 ⟨decide_eq_true rfl, List.mem_range.2 hi, fun j hj => ?_⟩
    have : ¬ ws.getD j [] = ws.getD i [] := fun e => by
      rw [show ws.getD j [] = ws[j] by simp [show j < ws.length by omega], show ws.getD i [] = ws[i] by simp [hi]] at e
      have := (List.getElem_inj hd).1 e
      omega
    rw [decide_eq_false this]; rfl
  unfold idxB
  rw [h]
def tyOf (w : Bs) : Option Int := if 1 ≤ idxB typeW w then some (idxB typeW w) else none
def kdOf (w : Bs) : Option Int := if 0 ≤ idxB kindW w then some (idxB kindW w) else none
theorem tyOf_iff {w : Bs} {t : Int} : tyOf w = some t ↔ 1 ≤ t ∧ t ≤ 5 ∧ typeW.getD t.toNat [] = w := by
  constructor
  · intro h
    unfold tyOf at h
    split at h
    · cases h
      rcases idxB_cases typeW w with e | ⟨i, e, h1, h2⟩
      · omega
      · rw [e]
        have : typeW.length = 6 := rfl
        exact ⟨by omega, by omega, h2⟩
    · cases h
  · intro ⟨h1, h2, h3⟩
    have := idxB_at (ws := typeW) (by decide) (i := t.toNat) (by show _ < 6; omega)
    rw [h3] at this
    unfold tyOf
    rw [this, if_pos (by omega)]; congr 1; omega
/-- all of them, or none -/
def allOf {α β : Type} (f : α → Option β) : List α → Option (List β)
  | [] => some []
  | x :: r => match f x, allOf f r with
    | some y, some t => some (y :: t)
    | _, _ => none
/-! the first line -/
def thingsR (line : Bs) : Option (List Int) :=
  match splitL 32 line with
  | w :: r => if w = thW ∧ 1 ≤ r.length ∧ r.length ≤ 4 then allOf tyOf r else none
  | [] => none
theorem allOf_len {α β : Type} {f : α → Option β} : ∀ {l : List α} {t : List β}, allOf f l = some t → t.length = l.length ∧ l.filterMap f = t
  | [], t, h => by cases h; exact ⟨rfl, rfl⟩
  | x :: r, t, h => by
    rw [allOf] at h
    split at h
    · rename_i y t' e1 e2
      cases h
      obtain ⟨h1, h2⟩ := allOf_len e2
      exact ⟨by simp [h1], by rw [List.filterMap_cons, e1, h2]⟩
    · cases h
theorem allOf_map {ws : List Bs} : ∀ {ts : List Int}, allOf tyOf ws = some ts → ts.map (fun t => typeW.getD t.toNat []) = ws ∧ ∀ t ∈ ts, 1 ≤ t ∧ t ≤ 5 := by
  induction ws with
  | nil => intro ts h; cases h; exact ⟨rfl, by simp⟩
  | cons w ws ih =>
    intro ts h
    rw [allOf] at h
    split at h
    · rename_i y t e1 e2
      cases h
      obtain ⟨h1, h2⟩ := ih e2
      obtain ⟨k1, k2, k3⟩ := tyOf_iff.1 e1
      refine ⟨by rw [List.map_cons, h1, k3], fun q hq => ?_⟩
      rcases List.mem_cons.1 hq with rfl | hq
      · exact ⟨k1, k2⟩
      · exact h2 q hq
    · cases h
/-! the line of an event -/
def bareB (k : Int) : Bool := decide (k = 2) || (decide (k = 4) || (decide (k = 6) || decide (k = 10)))
/-- what the program reads -/
def eventR (line : Bs) : Option Ev :=
  match splitL 32 line with
  | [a, b, k] => match numR a, numR b, kdOf k with
    | some a, some b, some k => if bareB k = true then some ⟨a, b, k, 0⟩ else none
    | _, _, _ => none
  | [a, b, k, v] => match numR a, numR b, kdOf k, numR v with
    | some a, some b, some k, some v => if bareB k = true then none else some ⟨a, b, k, v⟩
    | _, _, _, _ => none
  | _ => none
/-! all lines -/
def lnK (ls : List Bs) (i : Nat) : Bs := ls.getD i []
def lineOkB (ls : List Bs) (i : Nat) : Bool := if i + 1 = ls.length then decide (lnK ls i = [] ∧ 0 < i) else if i = 0 then (thingsR (lnK ls 0)).isSome else (eventR (lnK ls i)).isSome
def evsK (ls : List Bs) (k : Nat) : List Ev := (List.range (k - 1)).map fun i => (eventR (lnK ls (i + 1))).getD ⟨0, 0, 0, 0⟩
theorem evsK_succ (ls : List Bs) (k : Nat) : evsK ls (k + 2) = evsK ls (k + 1) ++ [(eventR (lnK ls (k + 1))).getD ⟨0, 0, 0, 0⟩] := by
  unfold evsK
  rw [show k + 2 - 1 = k + 1 from rfl, show k + 1 - 1 = k from rfl, List.range_succ, List.map_append]; rfl
theorem evsK_len (ls : List Bs) (k : Nat) : (evsK ls k).length = k - 1 := by simp [evsK]
def tysK (ls : List Bs) : List Int := (thingsR (lnK ls 0)).getD []
theorem splitL_len (c : UInt8) : ∀ l : Bs, (splitL c l).length ≤ l.length + 1
  | [] => by simp [splitL]
  | b :: r => by
    have := splitL_len c r
    rw [splitL]
    split
    · simp; omega
    · split
      · simp
      · rename_i x t e
        rw [e] at this
        simp at this ⊢; omega
theorem thingsR_ok {line : Bs} {ts : List Int} (h : thingsR line = some ts) : ts.length ≤ 4 ∧ 1 ≤ ts.length ∧ ∀ t ∈ ts, 1 ≤ t ∧ t ≤ 5 := by
  unfold thingsR at h
  split at h
  · split at h
    · rename_i h2
      obtain ⟨h3, _⟩ := allOf_len h
      exact ⟨by omega, by omega, (allOf_map h).2⟩
    · cases h
  · cases h
end Go.Proofs.YtjdckepbihcgfaaGreatDoor

namespace Go.Proofs.YtjdckepbihcgfaaGreatDoor
open Go.RowKit

section
variable {P : Program} (w : World)
end
section
variable {P : Program} {C : Ctx} {Q : Exit → Act → World → Prop} {E : Slots} {S : List Ent} {l rest : List Oper}
variable {t m e M bytes d g p n c k o : Nat} {x y : Operand} {v z : Value} {ty : TypeId} {g0 : Option (Nat × Bool)} {ps : String} {af : Array Edge}
theorem QS_sliceLow [hs : SliceOf P t e m] {k : IntKind} {l : Nat} (hx : evo E x = some (.slice (some ⟨g, p, none⟩) n c)) (hy : evo E y = some (.int k (l : Nat))) (hl : l ≤ n) :
    QS P C E S (.slice t x (some y) none none) ty (.slice (some ⟨g, if c = l then p else p + l * m, none⟩) (n - l) (c - l)) :=
  QS.of (fun a w ha _ => by
    have he : P.elem t = e := by simp [Program.elem, hs.und]
    have hu : P.underlying t = some (.slice (P.elem t)) := by rw [he]; exact hs.und
    have hr := run_slice_l (P := P) (w := w) t (some ⟨g, p, none⟩) n c hu k (l : Int) (by omega) (by omega)
    rw [he, hs.size w] at hr
    simp only [Result.andThen_ok, Int.toNat_natCast] at hr
    have hv : sliced (some ⟨g, p, none⟩) l n c m = .slice (some ⟨g, if c = l then p else p + l * m, none⟩) (n - l) (c - l) := by
      unfold sliced
      split <;> simp [add_mk]
    rw [hv] at hr
    simp [execOp, ha.evo hx, ha.evo hy, run_sliceAt_slice (P := P) (w := w) t _ _ _ _ hu, hr])
end
end Go.Proofs.YtjdckepbihcgfaaGreatDoor

namespace Go.Proofs.YtjdckepbihcgfaaGreatDoor
open Go.RowKit

def natEnc (k : Nat) : List Value := [.int .i64 k]
/-- numbers, as they stand in an int -/
def wrEnc (k : Nat) : List Value := [.int .i64 (IntKind.i64.wrap k)]
def boolEnc (b : Bool) : List Value := [.bool b]
section
variable {P : Program} {C : Ctx} {Q : Exit → Act → World → Prop} {E : Slots} {S S' : List Ent} {l rest : List Oper}
variable {d ty ty2 ty3 : Nat} {ps : String} {af : Array Edge} {g0 : Option (Nat × Bool)} {x y : Operand} {v u z : Value} {s t e m M bytes g c n : Nat} {A : Option Addr} {cs : Array Value}
/-- a block whole, as a list -/
theorem Mem.asOwn {α : Type} {enc : α → List Value} {w : World} (ls : List α) (hu : Upd S (entBlk g e cs) (entOwn enc M e (some ⟨g, 0, Option.none⟩) ls.length ls) S') (hcs : cs.toList = ls.flatMap enc) (hM : ∀ x, (enc x).length = M) (hl : ls.length ≤ maxLen) (hw : Mem C w S) : Mem C w S' := by
  have hb : Blk w g e cs := (hw.holds _ hu.mem).1
  refine hw.upd hu (Keeps.refl [] w) (by simp) (fun k hk => ?_) ?_
  · have : some g = some k := hk
    cases this
    exact ⟨hb.lt, .inl rfl⟩
  · show Own enc M e w 0 (.slice (some ⟨g, 0, Option.none⟩) ls.length ls.length) ls
    refine ⟨flat_len hM ls, .inr ⟨g, ls.length, cs, rfl, Nat.zero_le _, hb, Nat.le_refl _, hl, ?_, ?_⟩⟩
    · have := congrArg List.length hcs
      rw [flat_len hM] at this
      simpa using this
    · rw [hcs, List.take_of_length_le (by rw [flat_len hM]; exact Nat.le_refl _)]
theorem Mem.ownLe {α : Type} {enc : α → List Value} {ls : List α} {w : World} (hw : Mem C w S) (hm : entOwn enc M e A c ls ∈ S) : ls.length ≤ c := by
  have ho : Own enc M e w 0 (.slice A ls.length c) ls := (hw.holds _ hm).1
  rcases ho.2 with ⟨hv, _⟩ | ⟨g, cap, cur, hv, _, _, hnc, _⟩
  · simp only [Value.slice.injEq] at hv; omega
  · simp only [Value.slice.injEq] at hv; omega
theorem T_ownLe {α : Type} {enc : α → List Value} {ls : List α} {code : Code} (hm : entOwn enc M e A c ls ∈ S) (h : ls.length ≤ c → T P C code Q E S) : T P C code Q E S :=
  ⟨fun a w ha hw => (h (hw.ownLe hm)).run a w ha hw⟩
theorem TL_ownLe {α : Type} {enc : α → List Value} {ls : List α} (hm : entOwn enc M e A c ls ∈ S) (h : ls.length ≤ c → TL P C l Q rest E S) : TL P C l Q rest E S :=
  ⟨fun a w ha hw => (h (hw.ownLe hm)).run a w ha hw⟩
theorem TL_own {α : Type} {enc : α → List Value} {ls : List α} (hm : entOwn enc M e A c ls ∈ S) (hl : 0 < ls.length) (h : ∀ g, A = some ⟨g, 0, none⟩ → TL P C l Q rest E S) : TL P C l Q rest E S :=
  ⟨fun a w ha hw => by
    have ho : Own enc M e w 0 (.slice A ls.length c) ls := (hw.holds _ hm).1
    rcases ho.2 with ⟨hn, h0⟩ | ⟨g, cap, cur, hv, _⟩
    · omega
    · simp only [Value.slice.injEq] at hv
      exact (h g hv.1).run a w ha hw⟩
theorem TL_mem (hS : ∀ w, Mem C w S → Mem C w S') (h : TL P C l Q rest E S') : TL P C l Q rest E S := ⟨fun a w ha hw => h.run a w ha (hS w hw)⟩
/-- one item appended, out of a literal -/
theorem ES_append1 {α : Type} {enc : α → List Value} {gy cy ty' : Nat} {xx : α} {ls : List α} [hs : SliceOf P t e M] [hi : InfoOf P e z M bytes] {S' : Option Addr → Nat → List Ent} (hx : evo E x = some (.slice A ls.length c)) (hy : evo E y = some (.slice (some ⟨gy, 0, none⟩) 1 cy))
    (hm : entBlk gy ty' cs ∈ S) (hcs : cs.toList = enc xx) (hM : ∀ x, (enc x).length = M) (h1 : ∀ x, (enc x).all (·.oneCell') = true)
    (hu : ∀ A' c', Upd S (entOwn enc M e A c ls) (entOwn enc M e A' c' (ls ++ [xx])) (S' A' c')) (hb : (ls.length + 1) * bytes ≤ 140737488355328) (hb0 : 0 < bytes) (hd : Nat.ble (d + 1) C.n = true) :
    ES P C E S ⟨some d, .call ⟨.builtin .append, #[x, y], #[t, t]⟩, ty, ps, af, g0⟩ (fun E' T => ∃ A' c', E' = (d, .slice A' (ls ++ [xx]).length c') :: E ∧ T = S' A' c') :=
  ES_append (xs := [xx]) hx hy (by have := Lies.blk (C := C) (n := 1) (c := cy) hm; rw [hcs] at this; simpa using this) hM h1 hu hb hb0 hd
/-! numbers that wrap -/
section
variable {k : IntKind} {a b : Int} (hx : evo E x = some (.int k a)) (hy : evo E y = some (.int k b))
include hx hy
theorem QS_addW : QS P C E S (.binOp .add ty2 x y ty3) ty (.int k (k.wrap (a + b))) := QS.of (fun _ w ha _ => binInt ha hx hy _ (by simp [binOp, Op.intArith]))
theorem QS_subW : QS P C E S (.binOp .sub ty2 x y ty3) ty (.int k (k.wrap (a - b))) := QS.of (fun _ w ha _ => binInt ha hx hy _ (by simp [binOp, Op.intArith]))
theorem QS_mulW : QS P C E S (.binOp .mul ty2 x y ty3) ty (.int k (k.wrap (a * b))) := QS.of (fun _ w ha _ => binInt ha hx hy _ (by simp [binOp, Op.intArith]))
end
theorem i64_wrap_add (m n : Int) : IntKind.i64.wrap (IntKind.i64.wrap m + IntKind.i64.wrap n) = IntKind.i64.wrap (m + n) := by
  simp only [IntKind.wrap_i64]
  omega
theorem QS_addWW {a b : Int} (hx : evo E x = some (.int .i64 (IntKind.i64.wrap a))) (hy : evo E y = some (.int .i64 (IntKind.i64.wrap b))) : QS P C E S (.binOp .add ty2 x y ty3) ty (.int .i64 (IntKind.i64.wrap (a + b))) :=
  QS.of (fun _ w ha _ => binInt ha hx hy _ (by simp [binOp, Op.intArith, i64_wrap_add]))
/-! a slice, asked whether it is nil -/
section
variable [hs : SliceOf P t e m] (hx : evo E x = some (.slice A n c)) (hy : evo E y = some (.slice none 0 0))
include hs hx hy
theorem QS_eqlNil : QS P C E S (.binOp .eql t x y ty3) ty (.bool A.isNone) :=
  QS.of (fun a w ha _ => by
    have h2 := Lib.run_eql_slice_nil (P := P) w t e A n c 0 0 hs.und
    have hg : (eqGuard .eql t x y (.slice A n c) (.slice none 0 0)).run P w = .ok () w := by
      unfold eqGuard
      simp [run_underlying hs.und]
    simp only [execOp, ha.evo hx, ha.evo hy, Sem.run_bind, hg, Result.andThen_ok, h2]; rfl)
theorem QS_neqNil : QS P C E S (.binOp .neq t x y ty3) ty (.bool (!A.isNone)) :=
  QS.of (fun a w ha _ => by
    have h2 := run_neq_slice_nil_any (P := P) w t e A n c 0 0 hs.und
    have hg : (eqGuard .neq t x y (.slice A n c) (.slice none 0 0)).run P w = .ok () w := by
      unfold eqGuard
      simp [run_underlying hs.und]
    simp only [execOp, ha.evo hx, ha.evo hy, Sem.run_bind, hg, Result.andThen_ok, h2]; rfl)
end
/-- an empty literal -/
theorem ES_buildSlice0 {α : Type} (enc : α → List Value) [hs : SliceOf P t e m] (hd : Nat.ble (d + 1) C.n = true) : ES P C E S ⟨some d, .buildSlice t 0 #[], ty, ps, af, g0⟩ (fun E' S' => ∃ g, E' = (d, .slice (some ⟨g, 0, none⟩) 0 0) :: E ∧ S' = entOwn enc m e (some ⟨g, 0, none⟩) 0 [] :: S) := by
  refine (ES_core (fun u S' => ∃ g, u = .slice (some ⟨g, 0, none⟩) 0 0 ∧ S' = entOwn enc m e (some ⟨g, 0, none⟩) 0 [] :: S) (fun a w ha hw => ?_) hd).weak (by rintro _ _ ⟨_, ⟨g, rfl, rfl⟩, rfl⟩; exact ⟨g, rfl, rfl⟩)
  refine ⟨_, _, _, ?_, hw.alloc (.cells #[] e) (e := entOwn enc m e (some ⟨w.heap.size, 0, none⟩) 0 []) (fun _ h => h) ?_, _, rfl, rfl⟩
  · have e0 : (Array.range 0).map (fun _ => (default : Value)) = #[] := by simp [Array.range]
    simp [execOp, Instr.buildSlice, run_underlying hs.und, hs.size w, Instr.fill, newRow, e0]
  · show Own enc m e _ 0 (.slice (some ⟨w.heap.size, 0, none⟩) ([] : List α).length 0) []
    exact ⟨by simp, .inr ⟨w.heap.size, 0, #[], rfl, Nat.zero_le _, Blk.new _ _ _, Nat.le_refl _, by simp [maxLen], by simp, by simp⟩⟩
end

/-! results that lie in memory -/
section
variable {P : Program} {C : Ctx} {E : Slots} {S : List Ent}
inductive ResIs (P : Program) (C : Ctx) (E : Slots) (S : List Ent) : List ResultVar → List Value → Prop
  | nil : ResIs P C E S [] []
  | tmp {t : Nat} {v : Value} {r : List ResultVar} {vs : List Value} (hv : look t E = some v) (h : ResIs P C E S r vs) : ResIs P C E S (.tmp t :: r) (v :: vs)
  | cell {a t : Nat} {ad : Addr} {v : Value} {r : List ResultVar} {vs : List Value} (ha : look a E = some (.pointer (some ad))) (hl : Lds P C S t ad v) (h : ResIs P C E S r vs) : ResIs P C E S (.cell a t :: r) (v :: vs)
theorem results_is {fn : Func} {rs : List ResultVar} {vs : List Value} {a : Act} {w : World} (hfn : fn.results = rs.toArray) (ha : Env C.n a E) (hw : Mem C w S) (h : ResIs P C E S rs vs) : (results fn a.tmps).run P w = .ok (resVal vs) w := by
  have key : (rs.mapM (resG a.tmps)).run P w = .ok vs w := by
    induction h generalizing fn with
    | nil => simp
    | @tmp t v r vs hv _ ih =>
      have := ha.2.2 t v hv
      simp [List.mapM_cons, ih (fn := { fn with results := r.toArray }) rfl, resG, this]
    | @cell a' t ad v r vs hv hl _ ih =>
      have := ha.2.2 a' _ hv
      have h1 : (asAddr (Value.pointer (some ad))).run P w = .ok ad w := rfl
      simp [List.mapM_cons, ih (fn := { fn with results := r.toArray }) rfl, resG, this, h1, hl w hw]
  have e : results fn a.tmps = (do let vs ← fn.results.mapM (resG a.tmps); pure (if h : vs.size = 1 then vs[0] else .tuple vs)) := rfl
  rw [e, hfn]
  simp only [Array.mapM_eq_mapM_toList, Sem.run_bind, Sem.run_map, key]
  match vs with
  | [] => simp [resVal]
  | [v] => simp [resVal]
  | u :: v :: vs => simp [resVal]
theorem At_retM {fn : Func} {R : Ending → World → Prop} {rs : List ResultVar} {vs : List Value} (hfn : fn.results = rs.toArray) (hr : ResIs P C E S rs vs) (h : ∀ w, Mem C w S → R (.returned (resVal vs)) w) : At C (bodyPost P fn R .ret) E S :=
  ⟨fun a w ha hw => ⟨ha.1, _, results_is hfn ha hw hr, h w hw⟩⟩
end

end Go.Proofs.YtjdckepbihcgfaaGreatDoor

namespace Go.Proofs.YtjdckepbihcgfaaGreatDoor
open Go.RowKit

def intV (n : Int) : Value := .int .i64 n
def boolV (b : Bool) : Value := .bool b
def rowOfMap {α : Type} (enc : α → Value) (D : List (Int × α)) : List (Value × Value) := D.map fun p => (.int .i64 p.1, enc p.2)
/-- each entry has a stamp of its own, ahead of the clock -/
def BornOk (es : Array MapEntry) (cl : Nat) : Prop := (es.toList.map (·.born)).Nodup ∧ ∀ x ∈ es.toList, x.born < cl
def MapI {α : Type} (enc : α → Value) (w : World) (g : Nat) (D : List (Int × α)) : Prop :=
  ∃ es clock, w.heap[g]? = some (.map es clock) ∧ es.toList.map (fun e => (e.key, e.val)) = rowOfMap enc D ∧ BornOk es clock
theorem born_push {es : Array MapEntry} {cl : Nat} (h : BornOk es cl) (k v : Value) : BornOk (es.push { key := k, val := v, born := cl }) (cl + 1) := by
  refine ⟨?_, fun x hx => ?_⟩
  · rw [Array.toList_push, List.map_append, List.nodup_append]
    refine ⟨h.1, by simp, fun a ha b hb => ?_⟩
    obtain ⟨x, hx, rfl⟩ := List.mem_map.1 ha
    have := h.2 x hx
    simp at hb
    omega
  · rw [Array.toList_push] at hx
    rcases List.mem_append.1 hx with h1 | h1
    · have := h.2 x h1; omega
    · simp at h1; subst h1; exact Nat.lt_succ_self _
theorem born_modify {es : Array MapEntry} {cl : Nat} (h : BornOk es cl) (i : Nat) (f : MapEntry → MapEntry) (hf : ∀ x, (f x).born = x.born) : BornOk (es.modify i f) cl := by
  have e : (es.modify i f).toList.map (·.born) = es.toList.map (·.born) := by
    apply List.ext_getElem?
    intro j
    simp only [Array.toList_modify, List.getElem?_map, List.getElem?_modify]
    by_cases e : i = j
    · subst e; cases es.toList[i]? <;> simp [hf]
    · simp [if_neg e]
  refine ⟨by rw [e]; exact h.1, fun x hx => ?_⟩
  have h1 : x.born ∈ (es.modify i f).toList.map (·.born) := List.mem_map.2 ⟨x, hx, rfl⟩
  rw [e] at h1
  obtain ⟨y, hy, e2⟩ := List.mem_map.1 h1
  rw [← e2]
  exact h.2 y hy
def entMap {α : Type} (enc : α → Value) (g : Nat) (D : List (Int × α)) : Ent :=
  ⟨fun k => some g = some k, [g], fun k => by simp [eq_comm], fun w => MapI enc w g D, fun _ _ h hp => by
    obtain ⟨es, c, h1, h2⟩ := hp
    exact ⟨es, c, (h g rfl).trans h1, h2⟩⟩
/-- what a map holds behind m[k] = v -/
def putM {α : Type} : List (Int × α) → Int → α → List (Int × α)
  | [], k, v => [(k, v)]
  | p :: D, k, v => if k = p.1 then (k, v) :: D else p :: putM D k v
def lookM {α : Type} : List (Int × α) → Int → Option α
  | [], _ => none
  | p :: D, k => if k = p.1 then some p.2 else lookM D k
theorem lookM_put {α : Type} (k : Int) (v : α) (x : Int) : ∀ D : List (Int × α), lookM (putM D k v) x = if x = k then some v else lookM D x
  | [] => by simp [putM, lookM]
  | p :: D => by
    unfold putM
    split
    · rename_i h
      subst h
      simp only [lookM]
      split <;> rfl
    · rename_i h
      simp only [lookM, lookM_put k v x D]
      by_cases e : x = p.1
      · subst e; rw [if_pos rfl, if_neg (fun e => h e.symm), if_pos rfl]
      · rw [if_neg e, if_neg e]
def findD {α : Type} : List (Int × α) → Int → Nat → Option (Nat × α)
  | [], _, _ => none
  | p :: D, k, i => if k = p.1 then some (i, p.2) else findD D k (i + 1)
theorem findD_look {α : Type} (k : Int) : ∀ (D : List (Int × α)) (i : Nat), (findD D k i).map (·.2) = lookM D k
  | [], _ => rfl
  | p :: D, i => by simp only [findD, lookM]; split <;> simp [findD_look k D]
theorem findD_put {α : Type} (k : Int) (v : α) : ∀ (D : List (Int × α)) (i : Nat), match findD D k i with
    | some (j, _) => i ≤ j ∧ (∃ u, D[j - i]? = some (k, u)) ∧ putM D k v = D.modify (j - i) (fun _ => (k, v))
    | none => putM D k v = D ++ [(k, v)]
  | [], _ => rfl
  | p :: D, i => by
    simp only [findD]
    by_cases h : k = p.1
    · rw [if_pos h]
      refine ⟨Nat.le_refl _, ⟨p.2, by simp [h]⟩, by simp [putM, h]⟩
    · rw [if_neg h]
      have ih := findD_put k v D (i + 1)
      cases hf : findD D k (i + 1) with
      | none => rw [hf] at ih; simp only at ih ⊢; simp [putM, h, ih]
      | some q =>
        rw [hf] at ih
        obtain ⟨j, u⟩ := q
        simp only at ih ⊢
        obtain ⟨h1, ⟨u', h2⟩, h3⟩ := ih
        have e : j - i = (j - (i + 1)) + 1 := by omega
        refine ⟨by omega, ⟨u', by rw [e]; simpa using h2⟩, ?_⟩
        rw [e, List.modify_succ_cons, ← h3]
        simp [putM, h]
theorem findNow_int {α : Type} (enc : α → Value) (x : Int) : ∀ (es : List MapEntry) (D : List (Int × α)) (i : Nat), es.map (fun e => (e.key, e.val)) = rowOfMap enc D →
    Instr.findNow (.int .i64) (.int .i64 x) es i = some ((findD D x i).map fun p => (p.1, enc p.2))
  | [], [], _, _ => rfl
  | [], p :: D, _, h => by simp [rowOfMap] at h
  | e :: es, [], _, h => by simp [rowOfMap] at h
  | e :: es, p :: D, i, h => by
    simp only [rowOfMap, List.map_cons, List.cons.injEq, Prod.mk.injEq] at h
    obtain ⟨⟨h1, h2⟩, h3⟩ := h
    have ih := findNow_int enc x es D (i + 1) h3
    simp only [Instr.findNow, h1, Instr.sameNow, if_true, findD]
    by_cases hx : x = p.1
    · subst hx; simp [h2]
    · have : (x == p.1) = false := by simpa using hx
      rw [this, if_neg hx]
      exact ih
section
variable {P : Program} {C : Ctx} {Q : Exit → Act → World → Prop} {E : Slots} {S S' : List Ent}
variable {d ty ty2 ty3 : Nat} {ps : String} {af : Array Edge} {g0 : Option (Nat × Bool)} {x y m : Operand} {t k e g : Nat} {n : Int}
theorem run_checkKey [hm : MapOf P t k e] (b : Bool) (w : World) : (Instr.checkKey b 10000 k (.int .i64 n)).run P w = .ok () w := by
  unfold Instr.checkKey
  simp [run_underlying hm.key]
theorem run_findKey [hm : MapOf P t k e] {α : Type} (enc : α → Value) (es : List MapEntry) (D : List (Int × α)) (h : es.map (fun e => (e.key, e.val)) = rowOfMap enc D) (w : World) :
    (Instr.findKey k (.int .i64 n) es).run P w = .ok ((findD D n 0).map fun p => (p.1, enc p.2)) w := by
  unfold Instr.findKey
  simp [run_underlying hm.key, findNow_int enc n es D 0 h]
theorem run_lookup [hm : MapOf P t k e] {z : Value} [hz : ZeroOf P e z] {α : Type} {enc : α → Value} {z0 : α} (he : enc z0 = z) {D : List (Int × α)} {w : World} (hD : MapI enc w g D) (ok : Bool) :
    (Instr.lookup t (.map (some g)) (.int .i64 n) ok).run P w = .ok (if ok then .tuple #[enc ((lookM D n).getD z0), .bool (lookM D n).isSome] else enc ((lookM D n).getD z0)) w := by
  obtain ⟨es, cl, hg, hes, hbo⟩ := hD
  have hgo : (getObj g).run P w = .ok (.map es cl) w := by simp [getObj, Sem.run, hg]
  have h1 := run_checkKey (hm := hm) (n := n) es.isEmpty w
  have h2 := run_findKey (hm := hm) (n := n) enc es.toList D hes w
  have h3 := findD_look n D 0
  unfold Instr.lookup
  simp only [run_underlying hm.und, Sem.run_bind, Result.andThen_ok, hgo, Sem.run_pure, h1, h2]
  cases hf : findD D n 0 with
  | none =>
    rw [hf] at h3
    have h3' : lookM D n = none := h3.symm
    simp [hz.run w, h3', he]
  | some p =>
    rw [hf] at h3
    have h3' : lookM D n = some p.2 := h3.symm
    simp [h3']
/-- m[k] = v -/
theorem run_mapUpdate [hm : MapOf P t k e] {α : Type} {enc : α → Value} {D : List (Int × α)} {w : World} (hD : MapI enc w g D) (v : α) :
    ∃ w', (Instr.mapUpdate t (.map (some g)) (.int .i64 n) (enc v)).run P w = .ok () w' ∧ MapI enc w' g (putM D n v) ∧ Keeps [g] w w' := by
  obtain ⟨es, cl, hg, hes, hbo⟩ := hD
  have hlt : g < w.heap.size := (Array.getElem?_eq_some_iff.1 hg).1
  have hgo : (getObj g).run P w = .ok (.map es cl) w := by simp [getObj, Sem.run, hg]
  have h1 := run_checkKey (hm := hm) (n := n) false w
  have h2 := run_findKey (hm := hm) (n := n) enc es.toList D hes w
  have hput := findD_put n v D 0
  have hset : ∀ o : Obj, (setObj g o).run P w = .ok () { w with heap := w.heap.setIfInBounds g o } := fun o => by simp [setObj, Sem.run, hg]
  have hk : ∀ o : Obj, Keeps [g] w { w with heap := w.heap.setIfInBounds g o } := fun o => ⟨rfl, rfl, rfl, by simp, fun j _ hj => by
    simp only [List.mem_singleton] at hj
    exact Array.getElem?_setIfInBounds_ne (fun e => hj e.symm)⟩
  have hget : ∀ o : Obj, ({ w with heap := w.heap.setIfInBounds g o } : World).heap[g]? = some o := fun o => by simp [hlt]
  unfold Instr.mapUpdate
  simp only [run_underlying hm.und, Sem.run_bind, Result.andThen_ok, hgo, h1, h2]
  cases hf : findD D n 0 with
  | none =>
    rw [hf] at hput
    simp only [Option.map_none, hset]
    refine ⟨_, rfl, ⟨_, _, hget _, ?_, born_push hbo _ _⟩, hk _⟩
    rw [show putM D n v = D ++ [(n, v)] from hput]
    simp [rowOfMap] at hes ⊢
    exact hes
  | some p =>
    obtain ⟨i, u⟩ := p
    rw [hf] at hput
    simp only [Nat.sub_zero] at hput
    obtain ⟨_, ⟨u', hu⟩, hp⟩ := hput
    have hi : i < es.size := by
      have h4 := congrArg List.length hes
      have h5 := (List.getElem?_eq_some_iff.1 hu).1
      simp [rowOfMap] at h4
      omega
    have hkey : es[i].key = .int .i64 n := by
      have h6 : (es.toList.map fun e => (e.key, e.val))[i]? = some (es[i].key, es[i].val) := by simp [hi]
      rw [hes] at h6
      simp only [rowOfMap, List.getElem?_map, hu, Option.map_some, Option.some.injEq, Prod.mk.injEq] at h6
      exact h6.1.symm
    have hst : (Instr.keyThatStays (.int .i64 n) (.int .i64 n)).run P w = .ok (.int .i64 n) w := by
      unfold Instr.keyThatStays
      rw [if_pos (by simp [Instr.sameBits])]
      rfl
    simp only [Option.map_some, Array.getElem?_eq_getElem hi, Option.getD_some, hkey, Sem.run_bind, hst, Result.andThen_ok, hset]
    refine ⟨_, rfl, ⟨_, _, hget _, ?_, born_modify hbo _ _ (fun _ => rfl)⟩, hk _⟩
    rw [hp]
    apply List.ext_getElem?
    intro j
    have hj := congrArg (·[j]?) hes
    simp only [rowOfMap, List.getElem?_map] at hj ⊢
    rw [List.getElem?_modify]
    simp only [Array.toList_modify, List.getElem?_modify]
    by_cases e : i = j
    · subst e
      simp only [if_true, hu, Option.map_some]
      have : es.toList[i]? = some es[i] := by simp [hi]
      rw [this]; rfl
    · simp only [if_neg e]
      cases h7 : es.toList[j]? <;> cases h8 : D[j]? <;> rw [h7, h8] at hj <;> simp_all
theorem ES_makeMap {α : Type} (enc : α → Value) (hd : Nat.ble (d + 1) C.n = true) : ES P C E S ⟨some d, .makeMap t none, ty, ps, af, g0⟩ (fun E' S' => ∃ g, E' = (d, .map (some g)) :: E ∧ S' = entMap enc g [] :: S) := by
  refine (ES_core (fun u S' => ∃ g, u = .map (some g) ∧ S' = entMap enc g [] :: S) (fun a w ha hw => ?_) hd).weak (by rintro _ _ ⟨_, ⟨g, rfl, rfl⟩, rfl⟩; exact ⟨g, rfl, rfl⟩)
  refine ⟨_, _, _, ?_, hw.alloc (.map #[] 0) (e := entMap enc w.heap.size []) (fun _ h => h) ⟨#[], 0, heap_alloc_new w _, rfl, by simp [BornOk]⟩, _, rfl, rfl⟩
  simp [execOp, Instr.makeMap, newObj, Sem.run]
theorem ES_makeMapI [MapOf P t k e] [ZeroOf P e (.int .i64 0)] (hd : Nat.ble (d + 1) C.n = true) : ES P C E S ⟨some d, .makeMap t none, ty, ps, af, g0⟩ (fun E' S' => ∃ g, E' = (d, .map (some g)) :: E ∧ S' = entMap intV g [] :: S) := ES_makeMap intV hd
theorem ES_makeMapB [MapOf P t k e] [ZeroOf P e (.bool false)] (hd : Nat.ble (d + 1) C.n = true) : ES P C E S ⟨some d, .makeMap t none, ty, ps, af, g0⟩ (fun E' S' => ∃ g, E' = (d, .map (some g)) :: E ∧ S' = entMap boolV g [] :: S) := ES_makeMap boolV hd
section
variable [hm : MapOf P t k e] (hx : evo E m = some (.map (some g))) (hy : evo E x = some (.int .i64 n))
include hm hx
theorem QS_lenMap {α : Type} {enc : α → Value} {D : List (Int × α)} (hD : entMap enc g D ∈ S) : QS P C E S (.call ⟨.builtin .len, #[m], #[t]⟩) ty (.int .i64 D.length) := QS.of (fun a w ha hw => by
    obtain ⟨es, cl, hg, hes, _⟩ := (hw.holds _ hD).1
    have hgo : (getObj g).run P w = .ok (.map es cl) w := by simp [getObj, Sem.run, hg]
    have hl : es.size = D.length := by
      have := congrArg List.length hes
      simpa [rowOfMap] using this
    have hr : (Builtin.len_ #[t] ty #[.map (some g)]).run P w = .ok (.int .i64 D.length) w := by
      simp [Builtin.len_, run_underlying hm.und, hgo, hl, goInt]
    simp [execOp, resolve, invoke, builtin, ha.evo hx, hr])
include hy
theorem QS_lookI {D : List (Int × Int)} [hz : ZeroOf P e (.int .i64 0)] (hD : entMap intV g D ∈ S) : QS P C E S (.lookup t m x false) ty (.int .i64 ((lookM D n).getD 0)) :=
  QS.of (fun a w ha hw => by
    have h := run_lookup (hm := hm) (n := n) (enc := intV) (z0 := 0) rfl (hw.holds _ hD).1 false
    simp only [execOp, ha.evo hx, ha.evo hy, Sem.run_bind, h, Result.andThen_ok]; rfl)
theorem QS_lookIok {D : List (Int × Int)} [hz : ZeroOf P e (.int .i64 0)] (hD : entMap intV g D ∈ S) : QS P C E S (.lookup t m x true) ty (.tuple #[.int .i64 ((lookM D n).getD 0), .bool (lookM D n).isSome]) :=
  QS.of (fun a w ha hw => by
    have h := run_lookup (hm := hm) (n := n) (enc := intV) (z0 := 0) rfl (hw.holds _ hD).1 true
    simp only [execOp, ha.evo hx, ha.evo hy, Sem.run_bind, h, Result.andThen_ok]; rfl)
theorem QS_lookB {D : List (Int × Bool)} [hz : ZeroOf P e (.bool false)] (hD : entMap boolV g D ∈ S) : QS P C E S (.lookup t m x false) ty (.bool ((lookM D n).getD false)) :=
  QS.of (fun a w ha hw => by
    have h := run_lookup (hm := hm) (n := n) (enc := boolV) (z0 := false) rfl (hw.holds _ hD).1 false
    simp only [execOp, ha.evo hx, ha.evo hy, Sem.run_bind, h, Result.andThen_ok]; rfl)
theorem QS_lookBok {D : List (Int × Bool)} [hz : ZeroOf P e (.bool false)] (hD : entMap boolV g D ∈ S) : QS P C E S (.lookup t m x true) ty (.tuple #[.bool ((lookM D n).getD false), .bool (lookM D n).isSome]) :=
  QS.of (fun a w ha hw => by
    have h := run_lookup (hm := hm) (n := n) (enc := boolV) (z0 := false) rfl (hw.holds _ hD).1 true
    simp only [execOp, ha.evo hx, ha.evo hy, Sem.run_bind, h, Result.andThen_ok]; rfl)
theorem ES_mapUpdate {α : Type} {enc : α → Value} {D : List (Int × α)} {v : α} (hu : Upd S (entMap enc g D) (entMap enc g (putM D n v)) S') (hv : evo E y = some (enc v)) : ES P C E S ⟨none, .mapUpdate t m x y, ty, ps, af, g0⟩ (fun E' T => E' = E ∧ T = S') := by
  refine (ES_skip (fun T => T = S') (fun a w ha hw => ?_)).weak (by rintro _ _ ⟨rfl, rfl⟩; exact ⟨rfl, rfl⟩)
  obtain ⟨w', hr, hD', hk⟩ := run_mapUpdate (hm := hm) (n := n) (hw.holds _ hu.mem).1 v
  refine ⟨w', S', by simp [execOp, ha.evo hx, ha.evo hy, ha.evo hv, hr], ?_, rfl⟩
  refine hw.upd hu hk (by simp [entMap]) (fun k hk' => ?_) hD'
  have : some g = some k := hk'
  cases this
  obtain ⟨es, cl, hg, _⟩ := hD'
  exact ⟨(Array.getElem?_eq_some_iff.1 hg).1, .inl rfl⟩
end
end
end Go.Proofs.YtjdckepbihcgfaaGreatDoor

namespace Go.Proofs.YtjdckepbihcgfaaGreatDoor
open Go.RowKit

def blks : List Ent → List Nat
  | [] => []
  | e :: S => e.fin ++ blks S
theorem mem_blks {g : Nat} : ∀ {S : List Ent}, g ∈ blks S ↔ ∃ e ∈ S, e.has g
  | [] => by simp [blks]
  | e :: S => by
    have ih := mem_blks (g := g) (S := S)
    rw [blks, List.mem_append, ih, e.hfin]
    simp
section
variable {C : Ctx} {w w' : World} {S S1 S1' R : List Ent}
theorem Mem.anyN (h : Mem C w S) (n : Nat) : Mem ⟨n, C.F, C.w0⟩ w S := ⟨h.keeps, h.holds, h.apart⟩
/-- the part that a callee is handed -/
theorem Mem.self (n : Nat) (hw : Mem C w (S1 ++ R)) : Mem ⟨n, blks S1, w⟩ w S1 :=
  ⟨Keeps.refl _ _, fun e he => ⟨(hw.holds e (by simp [he])).1, fun g hg => ⟨((hw.holds e (by simp [he])).2 g hg).1, .inl (mem_blks.2 ⟨e, he, hg⟩)⟩⟩, (List.pairwise_append.1 hw.apart).1⟩
/-- what was there ahead of the call is none of its own blocks -/
theorem Mem.newBlk {b : Nat} (hw : Mem C w (S1 ++ R)) (hF : C.F = []) (hb : b < C.w0.heap.size) : b ∉ blks S1 := fun hm => by
  obtain ⟨e, he, hg⟩ := mem_blks.1 hm
  have := ((hw.holds e (by simp [he])).2 b hg).2
  rw [hF] at this
  rcases this with h | h
  · cases h
  · omega
/-- behind it the rest is as it was -/
theorem Mem.frame {n : Nat} (hw : Mem C w (S1 ++ R)) (ht : Mem ⟨n, blks S1, w⟩ w' S1') : Mem C w' (S1' ++ R) := by
  have hap := List.pairwise_append.1 hw.apart
  have hF : ∀ g ∈ blks S1, g < w.heap.size ∧ (g ∈ C.F ∨ C.w0.heap.size ≤ g) := fun g hg => by
    obtain ⟨e, he, hb⟩ := mem_blks.1 hg
    exact (hw.holds e (by simp [he])).2 g hb
  have hR : ∀ f ∈ R, ∀ g, f.has g → g ∉ blks S1 := fun f hf g hg hm => by
    obtain ⟨e, he, hb⟩ := mem_blks.1 hm
    exact hap.2.2 e he f hf g hb hg
  refine ⟨⟨ht.keeps.os.trans hw.keeps.os, ht.keeps.tape.trans hw.keeps.tape, ht.keeps.output.trans hw.keeps.output, Nat.le_trans hw.keeps.size ht.keeps.size, fun k hk hkF => ?_⟩, fun e he => ?_, ?_⟩
  · refine (ht.keeps.block k (Nat.lt_of_lt_of_le hk hw.keeps.size) fun hm => ?_).trans (hw.keeps.block k hk hkF)
    rcases (hF k hm).2 with h | h
    · exact hkF h
    · omega
  · rcases List.mem_append.1 he with he | he
    · obtain ⟨h1, h2⟩ := ht.holds e he
      refine ⟨h1, fun g hg => ⟨(h2 g hg).1, ?_⟩⟩
      rcases (h2 g hg).2 with h | h
      · exact (hF g h).2
      · exact .inr (Nat.le_trans hw.keeps.size h)
    · obtain ⟨h1, h2⟩ := hw.holds e (by simp [he])
      refine ⟨e.loc w w' (fun g hg => ht.keeps.block g (h2 g hg).1 (hR e he g hg)) h1, fun g hg => ⟨Nat.lt_of_lt_of_le (h2 g hg).1 ht.keeps.size, (h2 g hg).2⟩⟩
  · rw [List.pairwise_append]
    refine ⟨ht.apart, hap.2.1, fun e he f hf g hg hg' => ?_⟩
    rcases ((ht.holds e he).2 g hg).2 with h | h
    · exact hR f hf g hg' h
    · have := ((hw.holds f (by simp [hf])).2 g hg').1
      have h' : w.heap.size ≤ g := h
      omega
end
section
variable {P : Program} {C : Ctx} {Q : Exit → Act → World → Prop} {E : Slots} {S S1 S1' R : List Ent}
variable {d ty : Nat} {ps : String} {af : Array Edge} {g0 : Option (Nat × Bool)} {f : Nat}
/-! function values -/
theorem evs_toArray {a : Act} (ha : Env C.n a E) {xs : List Operand} {vs : List Value} (h : evs E xs = some vs) : xs.toArray.map a.eval = vs.toArray := by
  have := evs_eq ha h
  simp [this]
theorem QS_makeFunc {fn : Fn} {xs ys : List Operand} {vs us : List Value} (hx : evs E xs = some vs) (hy : evs E ys = some us) : QS P C E S (.makeFunc fn xs.toArray ys.toArray) ty (.func fn vs.toArray us.toArray) :=
  QS.of (fun a w ha _ => by
    simp only [execOp, Instr.makeFunc, evs_toArray ha hx, evs_toArray ha hy]; rfl)
theorem run_callV [hf : IsFn P f] {x : Operand} {xs : List Operand} {vs us cs : List Value} {ats : Array TypeId} (hv : evo E x = some (.func (.func f) us.toArray cs.toArray)) (hx : evs E xs = some vs) {a : Act} {w : World} (ha : Env C.n a E) :
    (execOp a.eval ⟨some d, .call ⟨.value x, xs.toArray, ats⟩, ty, ps, af, g0⟩).run P w = .ok (.enter f (us ++ vs ++ cs).toArray) w := by
  have h1 := ha.evo hv
  have h2 := evs_toArray ha hx
  simp only [execOp, resolve, h1, h2, Deferred.ofValue, Sem.run_bind, Sem.run_pure, Result.andThen_ok, invoke]
  have h3 := hf.run (us.toArray ++ vs.toArray ++ cs.toArray) w
  rw [h3]
  simp
/-- a call of a function value that leaves all alone -/
theorem ES_callFV [hf : IsFn P f] {x : Operand} {xs : List Operand} {vs us cs : List Value} {ats : Array TypeId} {v : Value} (hv : evo E x = some (.func (.func f) us.toArray cs.toArray)) (hx : evs E xs = some vs)
    (hc : ∀ w, Mem C w S → Calls P f (us ++ vs ++ cs).toArray w fun e w' => e = .returned v ∧ Below w.heap.size w w') (hd : Nat.ble (d + 1) C.n = true) :
    ES P C E S ⟨some d, .call ⟨.value x, xs.toArray, ats⟩, ty, ps, af, g0⟩ (fun E' S' => E' = (d, v) :: E ∧ S' = S) := by
  refine (ES_enter (fun u T => u = v ∧ T = S) (fun a w ha => run_callV hv hx ha) (fun w hw => (hc w hw).mono fun e w' ⟨he, hb⟩ => ⟨v, _, he, hw.below hb, rfl, rfl⟩) hd).weak (by rintro _ _ ⟨_, ⟨rfl, rfl⟩, rfl⟩; exact ⟨rfl, rfl⟩)
end
/-! what is known, in another order -/
inductive Pick : List Ent → Ent → List Ent → Prop
  | here (e : Ent) (S : List Ent) : Pick (e :: S) e S
  | there {S R : List Ent} {e : Ent} (f : Ent) (h : Pick S e R) : Pick (f :: S) e (f :: R)
theorem Pick.form {S R : List Ent} {e : Ent} (h : Pick S e R) : ∃ A B, S = A ++ e :: B ∧ R = A ++ B := by
  induction h with
  | here e S => exact ⟨[], S, rfl, rfl⟩
  | there f _ ih => obtain ⟨A, B, rfl, rfl⟩ := ih; exact ⟨f :: A, B, rfl, rfl⟩
inductive Sel : List Ent → List Ent → Prop
  | nil (S : List Ent) : Sel S []
  | cons {S R T : List Ent} {e : Ent} (h : Pick S e R) (t : Sel R T) : Sel S (e :: T)
section
variable {C : Ctx} {w : World} {S R T' : List Ent} {e : Ent}
theorem Mem.pick (hw : Mem C w S) (h : Pick S e R) : Mem C w (e :: R) := by
  obtain ⟨A, B, rfl, rfl⟩ := h.form
  have hap := hw.apart
  rw [List.pairwise_append, List.pairwise_cons] at hap
  obtain ⟨hA, ⟨hB1, hB⟩, hAB⟩ := hap
  refine ⟨hw.keeps, fun f hf => hw.holds f ?_, ?_⟩
  · rcases List.mem_cons.1 hf with rfl | hf
    · simp
    · rcases List.mem_append.1 hf with h | h <;> simp [h]
  · rw [List.pairwise_cons, List.pairwise_append]
    refine ⟨fun f hf g hg hg' => ?_, hA, hB, fun f hf k hk => hAB f hf k (by simp [hk])⟩
    rcases List.mem_append.1 hf with hf | hf
    · exact hAB f hf e (by simp) g hg' hg
    · exact hB1 f hf g hg hg'
theorem Sel.mem : ∀ {S T : List Ent}, Sel S T → ∀ f ∈ T, f ∈ S
  | _, _, .nil _, f, h => by simp at h
  | _, _, .cons h t, f, hf => by
    obtain ⟨A, B, rfl, rfl⟩ := h.form
    rcases List.mem_cons.1 hf with rfl | hf
    · simp
    · rcases List.mem_append.1 (t.mem f hf) with h | h <;> simp [h]
theorem Mem.sel (hw : Mem C w S) (h : Sel S T') : Mem C w T' := by
  induction h with
  | nil S => exact hw.sub (List.nil_sublist _)
  | @cons S R T e h t ih =>
    have h1 := hw.pick h
    have hap := List.pairwise_cons.1 h1.apart
    have h2 := ih (h1.sub (List.sublist_cons_self _ _))
    refine ⟨h2.keeps, fun f hf => ?_, ?_⟩
    · rcases List.mem_cons.1 hf with rfl | hf
      · exact h1.holds f (by simp)
      · exact h2.holds f hf
    · exact List.pairwise_cons.2 ⟨fun f hf => hap.1 f (t.mem f hf), h2.apart⟩
end
/-! a cut: what is known behind a region, said once -/
def Cut {X : Type} (C : Ctx) (I : X → Slots) (J : X → List Ent) (pre : X → Prop) (a : Act) (w : World) : Prop := ∃ x, pre x ∧ Env C.n a (I x) ∧ Mem C w (J x)
section
variable {P : Program} {C : Ctx} {Q : Exit → Act → World → Prop} {E : Slots} {S : List Ent}
theorem T_cut {X : Type} {x y : Code} (I : X → Slots) (J : X → List Ent) (pre : X → Prop) (hx : T P C x (Exit.then (Cut C I J pre) Q) E S) (hy : ∀ z, pre z → T P C y Q (I z) (J z)) : T P C (.seq x y) Q E S :=
  ⟨fun a w ha hw => wp_seq (Code.wp_mono (fun e a' w' h => by
    cases e with
    | normal =>
      obtain ⟨z, hp, he, hm⟩ := h
      exact (hy z hp).run a' w' he hm
    | _ => exact h) (hx.run a w ha hw))⟩
theorem At_cut {X : Type} {I : X → Slots} {J : X → List Ent} {pre : X → Prop} (z : X) (hp : pre z) (hE : SubE E (I z)) (hS : ∀ w, Mem C w S → Mem C w (J z)) : At C (Exit.then (Cut C I J pre) Q .normal) E S :=
  ⟨fun a w ha hw => ⟨z, hp, ha.sub hE, hS w hw⟩⟩
end
end Go.Proofs.YtjdckepbihcgfaaGreatDoor
