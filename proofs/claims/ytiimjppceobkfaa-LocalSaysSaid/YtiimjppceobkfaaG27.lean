/- Lemmas for the walks (Evt1, Evt2, Prt, Loc3). No condition. -/
import Derived.Test.YtiimjppceobkfaaG16
import Derived.Test.YtiimjppceobkfaaG05
import Derived.Test.YtiimjppceobkfaaG25
import Derived.Test.YtiimjppceobkfaaG15
import Derived.Test.YtiimjppceobkfaaG26
set_option linter.unusedSimpArgs false
set_option linter.unusedVariables false
set_option linter.unusedSectionVars false
set_option linter.unnecessarySimpa false
namespace Go.Proofs.Ytiimjppceobkfaa
open Go.RowKit

def clSlots (c : Cl) : List (Int × Ev) := (c.from_, ⟨c.who, c.thing, c.kind, c.arg⟩) :: (if c.to = -1 then [] else [(c.to, ⟨c.who, c.thing, 0, c.res⟩)])
def slotsOf (cs : List Cl) : List (Int × Ev) := cs.flatMap clSlots
def inR (n : Nat) (s : Int × Ev) : Bool := decide (0 ≤ s.1) && decide (s.1 < n)
def cntAt (sl : List (Int × Ev)) (at_ : Nat) : Nat := sl.countP fun s => decide (s.1 = (at_ : Int))
def cntUp (sl : List (Int × Ev)) : Nat → Nat
  | 0 => 0
  | n + 1 => cntUp sl n + cntAt sl n
theorem cntTo_eq (sl : List (Int × Ev)) : ∀ n, cntUp sl n = sl.countP (inR n)
  | 0 => by
    rw [cntUp, List.countP_eq_zero.2]
    intro s _
    simp [inR]
  | n + 1 => by
    rw [cntUp, cntTo_eq sl n]
    induction sl with
    | nil => rfl
    | cons s sl ih =>
      have e : cntAt (s :: sl) n = cntAt sl n + if s.1 = (n : Int) then 1 else 0 := by
        unfold cntAt; rw [List.countP_cons]; simp
      rw [e, List.countP_cons, List.countP_cons]
      have h : (if inR (n + 1) s = true then 1 else 0) = (if inR n s = true then 1 else 0) + if s.1 = (n : Int) then 1 else 0 := by
        unfold inR
        simp only [Bool.and_eq_true, decide_eq_true_eq]
        split <;> split <;> split <;> omega
      rw [h]
      omega
/-- all places hold one: then all are in range -/
theorem all_in {sl : List (Int × Ev)} {n : Nat} (hn : sl.length = n) (h : ∀ a, a < n → cntAt sl a = 1) : ∀ s ∈ sl, inR n s = true := by
  have hc : ∀ m, m ≤ n → cntUp sl m = m := by
    intro m
    induction m with
    | zero => intro _; rfl
    | succ m ih => intro hm; rw [cntUp, ih (by omega), h m (by omega)]
  have := hc n (Nat.le_refl _)
  rw [cntTo_eq, ← hn] at this
  rw [← hn]
  exact List.countP_eq_length.1 this
/-- all in range, none twice: then all places hold one -/
theorem all_one {sl : List (Int × Ev)} {n : Nat} (hn : sl.length = n) (hin : ∀ s ∈ sl, inR n s = true) (h : ∀ a, a < n → cntAt sl a ≤ 1) : ∀ a, a < n → cntAt sl a = 1 := by
  have h1 : cntUp sl n = n := by rw [cntTo_eq, ← hn]; exact List.countP_eq_length.2 (by rw [hn]; exact hin)
  have hle : ∀ m, m ≤ n → cntUp sl m ≤ m := by
    intro m
    induction m with
    | zero => intro _; exact Nat.le_refl _
    | succ m ih => intro hm; have := ih (by omega); have := h m (by omega); rw [cntUp]; omega
  intro a ha
  refine Nat.le_antisymm (h a ha) (Nat.pos_of_ne_zero fun h0 => ?_)
  have hlt : ∀ m, a < m → m ≤ n → cntUp sl m < m := by
    intro m
    induction m with
    | zero => intro h; omega
    | succ m ih =>
      intro ham hm
      rw [cntUp]
      by_cases e : a = m
      · subst e; have := hle a (by omega); omega
      · have := ih (by omega) (by omega); have := h m (by omega); omega
  have := hlt n ha (Nat.le_refl _)
  omega
/-- the program's way: slot by slot into places that are free -/
def putS (out : List (Option Ev)) (s : Int × Ev) : Option (List (Option Ev)) :=
  if 0 ≤ s.1 ∧ s.1 < out.length ∧ out.getD s.1.toNat none = none then some (out.set s.1.toNat (some s.2)) else none
def putAll (out : List (Option Ev)) : List (Int × Ev) → Option (List (Option Ev))
  | [] => some out
  | s :: sl => match putS out s with
    | some o => putAll o sl
    | none => none
/-- what lies at a place, where each place holds one -/
def evAt (sl : List (Int × Ev)) (a : Nat) : Option Ev := (sl.find? fun s => decide (s.1 = (a : Int))).map (·.2)
theorem evAt_none {sl : List (Int × Ev)} {a : Nat} : evAt sl a = none ↔ cntAt sl a = 0 := by
  unfold evAt cntAt
  rw [Option.map_eq_none_iff, List.find?_eq_none, List.countP_eq_zero]
theorem evAt_snoc (sl : List (Int × Ev)) (s : Int × Ev) (a : Nat) : evAt (sl ++ [s]) a = (evAt sl a).or (if s.1 = (a : Int) then some s.2 else none) := by
  unfold evAt
  rw [List.find?_append]
  cases h : sl.find? fun s => decide (s.1 = (a : Int)) with
  | some x => simp
  | none =>
    by_cases e : s.1 = (a : Int)
    · simp [List.find?, e]
    · simp [List.find?, e]
theorem cntAt_snoc (sl : List (Int × Ev)) (s : Int × Ev) (a : Nat) : cntAt (sl ++ [s]) a = cntAt sl a + if s.1 = (a : Int) then 1 else 0 := by
  unfold cntAt; rw [List.countP_append, List.countP_singleton]; simp
/-- what the places hold behind some slots -/
structure Rep (out : List (Option Ev)) (p : List (Int × Ev)) (n : Nat) : Prop where
  len : out.length = n
  inr : ∀ s ∈ p, inR n s = true
  at_ : ∀ a, a < n → out.getD a none = evAt p a ∧ cntAt p a ≤ 1
theorem rep_nil (n : Nat) : Rep (List.replicate n none) [] n := ⟨by simp, by simp, fun a ha => by simp [evAt, cntAt, ha]⟩
theorem rep_put {out : List (Option Ev)} {p : List (Int × Ev)} {n : Nat} {s : Int × Ev} (h : Rep out p n) : (putS out s = none ∧ ¬ (inR n s = true ∧ cntAt p s.1.toNat = 0)) ∨ (∃ o, putS out s = some o ∧ o = out.set s.1.toNat (some s.2) ∧ Rep o (p ++ [s]) n) := by
  unfold putS
  rw [h.len]
  by_cases hin : 0 ≤ s.1 ∧ s.1 < n
  · have hlt : s.1.toNat < n := by omega
    have hs : ((s.1.toNat : Nat) : Int) = s.1 := by omega
    obtain ⟨h1, h2⟩ := h.at_ s.1.toNat hlt
    by_cases hz : cntAt p s.1.toNat = 0
    · right
      rw [if_pos ⟨hin.1, hin.2, by rw [h1]; exact evAt_none.2 hz⟩]
      refine ⟨_, rfl, rfl, by simp [h.len], fun x hx => ?_, fun a ha => ?_⟩
      · rcases List.mem_append.1 hx with hx | hx
        · exact h.inr x hx
        · obtain rfl : x = s := by simpa using hx
          simp [inR, hin.1, hin.2]
      · rw [evAt_snoc, cntAt_snoc]
        have hg : (out.set s.1.toNat (some s.2)).getD a none = if a = s.1.toNat then some s.2 else out.getD a none := by
          simp only [List.getD_eq_getElem?_getD, List.getElem?_set]
          by_cases e : s.1.toNat = a
          · subst e; simp [h.len, hlt]
          · rw [if_neg e, if_neg (fun h => e h.symm)]
        rw [hg]
        by_cases e : a = s.1.toNat
        · subst e
          rw [if_pos rfl, if_pos hs.symm, if_pos hs.symm, evAt_none.2 hz, hz]
          exact ⟨rfl, by omega⟩
        · rw [if_neg e, if_neg (by omega), if_neg (by omega), (h.at_ a ha).1]
          exact ⟨by cases evAt p a <;> rfl, by have := (h.at_ a ha).2; omega⟩
    · left
      rw [if_neg (fun hh => hz (evAt_none.1 (by rw [← h1]; exact hh.2.2)))]
      exact ⟨rfl, fun hh => hz hh.2⟩
  · left
    rw [if_neg (fun hh => hin ⟨hh.1, hh.2.1⟩)]
    refine ⟨rfl, fun hh => hin ?_⟩
    have := hh.1
    simpa [inR] using this
end Go.Proofs.Ytiimjppceobkfaa

namespace Go.Proofs.Ytiimjppceobkfaa
open Go.RowKit

/-! readings that know the same types of what occurs -/
theorem evR_local {ts us : List Int} {x : Ev} (cs : List Cl) (i : Int) (h : 0 ≤ x.thing ∧ x.thing < ts.length ∧ x.thing < us.length ∧ ts.getD x.thing.toNat 0 = us.getD x.thing.toNat 0) : evR ts cs i x = evR us cs i x := by
  obtain ⟨_, h1, h2, h3⟩ := h
  have hf : formBad ts x = formBad us x := by
    unfold formBad
    rw [decide_eq_false (show ¬ (ts.length : Int) ≤ x.thing by omega), decide_eq_false (show ¬ (us.length : Int) ≤ x.thing by omega)]
  unfold evR
  rw [hf, h3]
theorem stR_local {ts us : List Int} {l : List Ev} (h : ∀ x ∈ l, 0 ≤ x.thing ∧ x.thing < ts.length ∧ x.thing < us.length ∧ ts.getD x.thing.toNat 0 = us.getD x.thing.toNat 0) : ∀ k, k ≤ l.length → stR ts l k = stR us l k
  | 0, _ => rfl
  | k + 1, hk => by
    have e : l.getD k default = l[k] := by rw [List.getD_eq_getElem?_getD, List.getElem?_eq_getElem (by omega)]; rfl
    rw [stR, stR, stR_local h k (by omega), e, evR_local _ _ (h l[k] (List.getElem_mem _))]
theorem erR_local {ts us : List Int} {l : List Ev} (h : ∀ x ∈ l, 0 ≤ x.thing ∧ x.thing < ts.length ∧ x.thing < us.length ∧ ts.getD x.thing.toNat 0 = us.getD x.thing.toNat 0) (k : Nat) (hk : k < l.length) : erR ts l k = erR us l k := by
  have e : l.getD k default = l[k] := by rw [List.getD_eq_getElem?_getD, List.getElem?_eq_getElem (by omega)]; rfl
  unfold erR
  rw [stR_local h k (by omega), e, evR_local _ _ (h l[k] (List.getElem_mem _))]
theorem find_congr {α : Type} {p q : α → Bool} : ∀ {l : List α}, (∀ x ∈ l, p x = q x) → l.find? p = l.find? q
  | [], _ => rfl
  | x :: l, h => by
    rw [List.find?_cons, List.find?_cons, h x (by simp), find_congr (l := l) fun y hy => h y (by simp [hy])]
theorem callsR_local {ts us : List Int} {l : List Ev} (h1 : typesOk ts = true) (h2 : typesOk us = true) (h : ∀ x ∈ l, 0 ≤ x.thing ∧ x.thing < ts.length ∧ x.thing < us.length ∧ ts.getD x.thing.toNat 0 = us.getD x.thing.toNat 0) : callsR ts l = callsR us l := by
  have hf : failR ts l = failR us l := by
    unfold failR
    rw [find_congr fun k hk => by rw [erR_local h k (by simpa using hk)]]
  unfold callsR
  rw [hf, stR_local h l.length (Nat.le_refl _)]
  simp only [typesE, h1, h2, if_true]
  by_cases hl : failR us l < l.length
  · rw [erR_local h _ hl]
  · rw [if_neg hl, if_neg hl]

/-! the types that each takes -/
def tyStep (ts : List Int) (c : Cl) : List Int := (ts ++ List.replicate (c.thing.toNat + 1 - ts.length) 1).set c.thing.toNat (max (typeF c.kind) 1)
def tyStepR (ts : List Int) (c : Cl) : List Int := if 0 ≤ c.thing ∧ c.thing ≤ 3 ∧ typeF c.kind ≠ 0 then ts.set c.thing.toNat (typeF c.kind) else ts
def tyP (cs : List Cl) : List Int := cs.foldl tyStep [1]
def tyR (cs : List Cl) : List Int := cs.foldl tyStepR [1, 1, 1, 1]
theorem tyP_snoc (cs : List Cl) (c : Cl) : tyP (cs ++ [c]) = tyStep (tyP cs) c := by unfold tyP; rw [List.foldl_append]; rfl
theorem tyR_snoc (cs : List Cl) (c : Cl) : tyR (cs ++ [c]) = tyStepR (tyR cs) c := by unfold tyR; rw [List.foldl_append]; rfl
theorem typeF_le (k : Int) : 0 ≤ typeF k ∧ typeF k ≤ 5 := by unfold typeF; repeat' split <;> omega
def In5 (ts : List Int) : Prop := ∀ t ∈ ts, 1 ≤ t ∧ t ≤ 5
theorem In5.ok {ts : List Int} (h : In5 ts) (h1 : 1 ≤ ts.length) (h4 : ts.length ≤ 4) : typesOk ts = true := by
  unfold typesOk
  rw [decide_eq_true ⟨h1, h4⟩, Bool.true_and, Bool.not_eq_true', List.any_eq_false]
  intro t ht
  have := h t ht
  simp only [badT, decide_eq_true_eq]; omega
structure TyP (ts : List Int) (cs : List Cl) : Prop where
  pos : 1 ≤ ts.length
  le : ts.length ≤ 4
  in5 : In5 ts
  has : ∀ c ∈ cs, c.thing < ts.length
theorem tyP_inv : ∀ {cs : List Cl}, (∀ c ∈ cs, 0 ≤ c.thing ∧ c.thing < 4) → TyP (tyP cs) cs := by
  intro cs
  suffices h : ∀ r : List Cl, (∀ c ∈ r.reverse, 0 ≤ c.thing ∧ c.thing < 4) → TyP (tyP r.reverse) r.reverse by
    have := h cs.reverse; rwa [List.reverse_reverse] at this
  intro r
  induction r with
  | nil => intro _; exact ⟨by simp [tyP], by simp [tyP], fun t ht => by simp [tyP] at ht; omega, fun c hc => by simp at hc⟩
  | cons c r ih =>
    intro h
    rw [List.reverse_cons] at h ⊢
    obtain ⟨i1, i2, i3, i4⟩ := ih fun x hx => h x (by simp at hx ⊢; exact .inl hx)
    have hc := h c (by simp)
    have ht := typeF_le c.kind
    rw [tyP_snoc]
    have hl : (tyStep (tyP r.reverse) c).length = max (tyP r.reverse).length (c.thing.toNat + 1) := by
      simp only [tyStep, List.length_set, List.length_append, List.length_replicate]; omega
    refine ⟨by omega, by omega, fun t hm => ?_, fun x hx => ?_⟩
    · rcases List.mem_or_eq_of_mem_set hm with hm | rfl
      · rcases List.mem_append.1 hm with hm | hm
        · exact i3 t hm
        · have := (List.mem_replicate.1 hm).2; omega
      · omega
    · rcases List.mem_append.1 hx with hx | hx
      · have := i4 x hx; omega
      · obtain rfl : x = c := by simpa using hx
        omega
theorem tyR_inv (cs : List Cl) : (tyR cs).length = 4 ∧ In5 (tyR cs) := by
  suffices h : ∀ (r : List Cl) (ts : List Int), ts.length = 4 ∧ In5 ts → (r.foldl tyStepR ts).length = 4 ∧ In5 (r.foldl tyStepR ts) from
    h cs _ ⟨rfl, fun t ht => by simp at ht; omega⟩
  intro r
  induction r with
  | nil => intro ts h; exact h
  | cons c r ih =>
    intro ts h
    refine ih _ ?_
    unfold tyStepR
    split
    · rename_i hc
      have := typeF_le c.kind
      refine ⟨by simp [h.1], fun t ht => ?_⟩
      rcases List.mem_or_eq_of_mem_set ht with ht | rfl
      · exact h.2 t ht
      · omega
    · exact h
theorem getD_set {α : Type} (l : List α) (i j : Nat) (x d : α) (hi : i < l.length) : (l.set i x).getD j d = if j = i then x else l.getD j d := by
  rw [List.getD_eq_getElem?_getD, List.getElem?_set, List.getD_eq_getElem?_getD]
  by_cases e : i = j
  · subst e; simp [hi]
  · rw [if_neg e, if_neg fun h => e h.symm]
theorem ty_same : ∀ {cs : List Cl}, (∀ c ∈ cs, 0 ≤ c.thing ∧ c.thing < 4 ∧ typeF c.kind ≠ 0) → ∀ c ∈ cs, (tyP cs).getD c.thing.toNat 0 = (tyR cs).getD c.thing.toNat 0 := by
  intro cs
  suffices h : ∀ r : List Cl, (∀ c ∈ r.reverse, 0 ≤ c.thing ∧ c.thing < 4 ∧ typeF c.kind ≠ 0) → ∀ c ∈ r.reverse, (tyP r.reverse).getD c.thing.toNat 0 = (tyR r.reverse).getD c.thing.toNat 0 by
    have := h cs.reverse; rwa [List.reverse_reverse] at this
  intro r
  induction r with
  | nil => intro _ c hc; simp at hc
  | cons c r ih =>
    intro h
    rw [List.reverse_cons] at h ⊢
    have hr := fun x hx => h x (List.mem_append_left _ hx)
    have ih' := ih hr
    have hI := tyP_inv fun x hx => ⟨(hr x hx).1, (hr x hx).2.1⟩
    obtain ⟨j1, _⟩ := tyR_inv r.reverse
    obtain ⟨c1, c2, c3⟩ := h c (by simp)
    have ht := typeF_le c.kind
    intro x hx
    have hxb := h x hx
    rw [tyP_snoc, tyR_snoc, tyStepR, if_pos ⟨c1, by omega, c3⟩, tyStep, getD_set _ _ _ _ _ (by simp; omega), getD_set _ _ _ _ _ (by omega)]
    by_cases e : x.thing.toNat = c.thing.toNat
    · rw [if_pos e, if_pos e]; omega
    · rw [if_neg e, if_neg e]
      have hx' : x ∈ r.reverse := by
        rcases List.mem_append.1 hx with hx | hx
        · exact hx
        · obtain rfl : x = c := by simpa using hx
          exact absurd rfl e
      rw [← ih' x hx']
      have := hI.has x hx'
      rw [List.getD_eq_getElem?_getD, List.getElem?_append_left (by omega), ← List.getD_eq_getElem?_getD]

/-! the two answers -/
def outL (cs : List Cl) : List Ev := (List.range (slotsOf cs).length).map fun a => (evAt (slotsOf cs) a).getD default
def backOk (ts : List Int) (l : List Ev) (cs : List Cl) : Bool := decide ((callsR ts l).2.2 = 0) && decide ((callsR ts l).1 = cs)
def filled (cs : List Cl) : Prop := ∀ a, a < (slotsOf cs).length → cntAt (slotsOf cs) a = 1
instance (cs : List Cl) : Decidable (filled cs) := by unfold filled; infer_instance
def thingsOk (cs : List Cl) : Prop := ∀ c ∈ cs, 0 ≤ c.thing ∧ c.thing < 4
instance (cs : List Cl) : Decidable (thingsOk cs) := by unfold thingsOk; infer_instance
/-- the program's answer to calls that are not too many -/
def evsP (cs : List Cl) : List Ev × Int :=
  if thingsOk cs ∧ filled cs ∧ backOk (tyP cs) (outL cs) cs = true then (outL cs, 0) else ([], 3)
/-- the document's -/
def evsR (cs : List Cl) : List Ev × Bool := if filled cs then (outL cs, backOk (tyR cs) (outL cs) cs) else ([], false)
theorem slots_mem {cs : List Cl} {s : Int × Ev} (h : s ∈ slotsOf cs) : ∃ c ∈ cs, s.2.thing = c.thing := by
  obtain ⟨c, hc, hs⟩ := List.mem_flatMap.1 h
  refine ⟨c, hc, ?_⟩
  unfold clSlots at hs
  rcases List.mem_cons.1 hs with rfl | hs
  · rfl
  · split at hs
    · simp at hs
    · obtain rfl : s = _ := by simpa using hs
      rfl
theorem outL_mem {cs : List Cl} (hf : filled cs) {x : Ev} (h : x ∈ outL cs) : ∃ c ∈ cs, x.thing = c.thing := by
  obtain ⟨a, ha, rfl⟩ := List.mem_map.1 h
  have hc := hf a (by simpa using ha)
  cases he : evAt (slotsOf cs) a with
  | none => rw [evAt_none.1 he] at hc; omega
  | some v =>
    unfold evAt at he
    rw [Option.map_eq_some_iff] at he
    obtain ⟨s, hs, rfl⟩ := he
    exact slots_mem (List.mem_of_find?_eq_some hs)
theorem back_kinds {ts : List Int} {l : List Ev} {cs : List Cl} (h : backOk ts l cs = true) : typesOk ts = true ∧ ∀ c ∈ cs, 0 ≤ c.thing ∧ c.thing < ts.length ∧ typeF c.kind ≠ 0 := by
  simp only [backOk, Bool.and_eq_true, decide_eq_true_eq] at h
  obtain ⟨h0, h1⟩ := h
  obtain ⟨t1, _, _, t4⟩ := callsR_inv h0
  rw [h1] at t4
  refine ⟨t1, fun c hc => ?_⟩
  have hI := clsOk_st ts l l.length
  rw [← t4] at hI
  obtain ⟨q, hq, rfl⟩ := List.getElem_of_mem hc
  have hC := hI.each q hq
  refine ⟨hC.thing.1, hC.thing.2, fun hz => ?_⟩
  have hk := hC.kind
  rw [← typeF_kinds] at hk
  simp only [fitsB, decide_eq_true_eq] at hk
  exact hk.1 (by rw [← hk.2]; exact hz)
/-- both readings say the same -/
theorem evs_same (cs : List Cl) : evsP cs = if (evsR cs).2 = true then ((evsR cs).1, 0) else ([], 3) := by
  unfold evsP evsR
  by_cases hf : filled cs
  · rw [if_pos hf]
    dsimp only
    have key : (thingsOk cs ∧ filled cs ∧ backOk (tyP cs) (outL cs) cs = true) ↔ backOk (tyR cs) (outL cs) cs = true := by
      have loc : (∀ c ∈ cs, 0 ≤ c.thing ∧ c.thing < 4 ∧ typeF c.kind ≠ 0) → callsR (tyP cs) (outL cs) = callsR (tyR cs) (outL cs) := by
        intro h
        have hI := tyP_inv fun c hc => ⟨(h c hc).1, (h c hc).2.1⟩
        obtain ⟨j1, j2⟩ := tyR_inv cs
        refine callsR_local (hI.in5.ok hI.pos hI.le) (j2.ok (by omega) (by omega)) fun x hx => ?_
        obtain ⟨c, hc, e⟩ := outL_mem hf hx
        rw [e]
        have := hI.has c hc
        have := h c hc
        exact ⟨this.1, by omega, by omega, ty_same h c hc⟩
      constructor
      · rintro ⟨h1, _, h3⟩
        obtain ⟨_, hk⟩ := back_kinds h3
        unfold backOk at h3 ⊢
        rw [← loc fun c hc => ⟨(h1 c hc).1, (h1 c hc).2, (hk c hc).2.2⟩]
        exact h3
      · intro h3
        obtain ⟨_, hk⟩ := back_kinds h3
        have h4 : ∀ c ∈ cs, 0 ≤ c.thing ∧ c.thing < 4 ∧ typeF c.kind ≠ 0 := fun c hc => by
          have := hk c hc
          have := (tyR_inv cs).1
          exact ⟨by omega, by omega, (hk c hc).2.2⟩
        refine ⟨fun c hc => ⟨(h4 c hc).1, (h4 c hc).2.1⟩, hf, ?_⟩
        unfold backOk at h3 ⊢
        rw [loc h4]
        exact h3
    by_cases hb : backOk (tyR cs) (outL cs) cs = true
    · rw [if_pos (key.2 hb), if_pos hb]
    · rw [if_neg fun h => hb (key.1 h), if_neg hb]
  · rw [if_neg hf, if_neg fun h => hf h.2.1]
    simp
/-! the program's way, slot by slot -/
theorem slotsOf_snoc (cs : List Cl) (c : Cl) : slotsOf (cs ++ [c]) = slotsOf cs ++ clSlots c := by simp [slotsOf]
theorem take_snoc {α : Type} {l : List α} {k : Nat} (h : k < l.length) : l.take (k + 1) = l.take k ++ [l[k]] := by
  rw [List.take_add_one, List.getElem?_eq_getElem h]; rfl
theorem cntAt_append (p q : List (Int × Ev)) (a : Nat) : cntAt (p ++ q) a = cntAt p a + cntAt q a := by unfold cntAt; rw [List.countP_append]
/-- a slot that finds no place: then not all places hold one -/
theorem not_filled {cs : List Cl} {p q : List (Int × Ev)} {s : Int × Ev} (hs : slotsOf cs = p ++ s :: q) (h : ¬ (inR (slotsOf cs).length s = true ∧ cntAt p s.1.toNat = 0)) : ¬ filled cs := by
  intro hf
  have hin := all_in rfl hf s (by rw [hs]; simp)
  refine h ⟨hin, ?_⟩
  simp only [inR, Bool.and_eq_true, decide_eq_true_eq] at hin
  have := hf s.1.toNat (by omega)
  rw [hs, cntAt_append] at this
  have h1 : 1 ≤ cntAt (s :: q) s.1.toNat := by
    unfold cntAt; rw [List.countP_cons]
    have : s.1 = ((s.1.toNat : Nat) : Int) := by omega
    rw [if_pos (by simpa using this)]; omega
  omega
theorem rep_filled {cs : List Cl} {out : List (Option Ev)} (h : Rep out (slotsOf cs) (slotsOf cs).length) : filled cs ∧ out.map (fun o => o.getD default) = outL cs := by
  refine ⟨all_one rfl h.inr fun a ha => (h.at_ a ha).2, ?_⟩
  apply List.ext_getElem?
  intro a
  unfold outL
  rw [List.getElem?_map, List.getElem?_map]
  by_cases ha : a < (slotsOf cs).length
  · have h1 := (h.at_ a ha).1
    rw [List.getElem?_eq_getElem (by rw [h.len]; exact ha), List.getElem?_range ha]
    rw [List.getD_eq_getElem?_getD, List.getElem?_eq_getElem (by rw [h.len]; exact ha)] at h1
    simp only [Option.getD_some] at h1
    simp [h1]
  · rw [List.getElem?_eq_none (by rw [h.len]; omega), List.getElem?_eq_none (by simp; omega)]
    rfl
/-! the document's way, place by place -/
def evsAt (sl : List (Int × Ev)) (a : Nat) : List Ev := (sl.filter fun s => decide (s.1 = (a : Int))).map (·.2)
theorem evsAt_len (sl : List (Int × Ev)) (a : Nat) : (evsAt sl a).length = cntAt sl a := by unfold evsAt cntAt; rw [List.length_map, List.countP_eq_length_filter]
theorem evsAt_append (p q : List (Int × Ev)) (a : Nat) : evsAt (p ++ q) a = evsAt p a ++ evsAt q a := by unfold evsAt; rw [List.filter_append, List.map_append]
theorem evsAt_one {sl : List (Int × Ev)} {a : Nat} (h : cntAt sl a = 1) : evsAt sl a = [(evAt sl a).getD default] := by
  have hl := evsAt_len sl a
  rw [h] at hl
  obtain ⟨v, hv⟩ := List.length_eq_one_iff.1 hl
  rw [hv]
  have he : evAt sl a = (evsAt sl a).head? := by
    unfold evAt evsAt
    rw [List.head?_map, List.head?_filter]
  rw [he, hv]; rfl
def outTo (cs : List Cl) (a : Nat) : List Ev := (List.range a).map fun a => (evAt (slotsOf cs) a).getD default
theorem outTo_succ {cs : List Cl} {a : Nat} (h : cntAt (slotsOf cs) a = 1) : outTo cs a ++ evsAt (slotsOf cs) a = outTo cs (a + 1) := by
  unfold outTo
  rw [List.range_succ, List.map_append, evsAt_one h]; rfl
theorem outTo_len (cs : List Cl) (a : Nat) : (outTo cs a).length = a := by simp [outTo]
theorem slots_len : ∀ cs : List Cl, (slotsOf cs).length = cs.length + cs.countP (fun c => decide (c.to ≠ -1))
  | [] => rfl
  | c :: cs => by
    have ih := slots_len cs
    unfold slotsOf at ih ⊢
    rw [List.flatMap_cons, List.length_append, ih, List.countP_cons]
    unfold clSlots
    by_cases h : c.to = -1
    · simp [h]; omega
    · simp [h]; omega
end Go.Proofs.Ytiimjppceobkfaa

namespace Go.Proofs.Ytiimjppceobkfaa
open Go.RowKit

/-! the events of one thing -/
def partL (l : List Ev) (thing : Int) (k : Nat) : List Ev := (l.take k).filter fun x => decide (x.thing = thing)
theorem partL_yes {l : List Ev} {t : Int} {k : Nat} (hk : k < l.length) (h : l[k].thing = t) : partL l t k ++ [l[k]] = partL l t (k + 1) := by
  unfold partL; rw [take_snoc hk, List.filter_append]; simp [h]
theorem partL_no {l : List Ev} {t : Int} {k : Nat} (hk : k < l.length) (h : ¬ l[k].thing = t) : partL l t k = partL l t (k + 1) := by
  unfold partL; rw [take_snoc hk, List.filter_append]; simp [h]
theorem partL_len (l : List Ev) (t : Int) (k : Nat) : (partL l t k).length ≤ k := by
  unfold partL
  have := List.length_filter_le (fun x : Ev => decide (x.thing = t)) (l.take k)
  rw [List.length_take] at this; omega
/-- what Part answers -/
def partE (ts : List Int) (l : List Ev) (t : Int) : Int := if (callsR ts l).2.2 ≠ 0 then (callsR ts l).2.2 else if t < 0 ∨ ts.length ≤ t then 4 else 0
def partR (ts : List Int) (l : List Ev) (t : Int) : List Ev := if partE ts l t = 0 then partL l t l.length else []
theorem callsR_long0 {ts : List Int} {l : List Ev} (h : (callsR ts l).2.2 = 0) : l.length ≤ 200 := (callsR_inv h).2.1
section
variable (A0 B0 : Option Addr) (c0 d0 : Nat) (ts : List Int) (l : List Ev) (t : Int) (w : World) (hts : ts.length ≤ 9223372036854775807) (hl : l.length ≤ 9223372036854775807) (hT : RdInt w A0 ts) (hA : RdEv w B0 l)
include hts hl hT hA
set_option maxRecDepth 100000 in
set_option maxHeartbeats 2000000 in
theorem part_any : Calls Try.prog 159 #[.slice A0 ts.length c0, .slice B0 l.length d0, .int .i64 t] w fun e w' => ∃ A c, e = .returned (.tuple #[.slice A (partR ts l t).length c, .int .i64 (partE ts l t)]) ∧ Own Ev.enc 4 45 w' w.heap.size (.slice A (partR ts l t).length c) (partR ts l t) ∧ Below w.heap.size w w' := by
  have hlong := callsR_long0 (ts := ts) (l := l)
  have h1 := fun w h1 h2 => callsCode_any A0 B0 c0 d0 ts l w hts hl h1 h2
  unfold partR partE
  obtain ⟨R1, R2, R3, hR⟩ : ∃ R1 R2 R3, callsR ts l = (R1, R2, R3) := ⟨_, _, _, rfl⟩
  rw [hR] at h1 hlong ⊢
  dsimp only at h1 hlong ⊢
  clear hR
  refine calls_T (S := []) [] Try.func159 rfl Try.ntmps159 (by simp) (Mem.nil _) ?_
  repeat' (first | (refine GO ?_) | (refine GOE ?_; (first | (rintro _ _ ⟨rfl, rfl⟩) | (rintro _ _ ⟨g, rfl, rfl⟩) | (rintro _ _ ⟨A', c', rfl, rfl⟩))) | ((refine GO2 ?_ ?_) <;> intro h <;> (try (repeat (first | with_reducible (replace h := of_decide_eq_true h) | with_reducible (replace h := of_decide_eq_false h) | with_reducible (replace h := bnt h) | with_reducible (replace h := bnf h) | with_reducible (replace h := Int.not_lt.mp h) | with_reducible (replace h := Int.not_le.mp h) | with_reducible (replace h := band_dec h) | with_reducible (replace h := band_decF h) | with_reducible (replace h := bor_dec h) | with_reducible (replace h := bor_decF h)))) <;> (try (exfalso; first | contradiction | omega))) | ((with_reducible (first | apply TD_e2z | apply TD_e3z | apply TL_e | apply TD_e2 | apply TD_e3)); ((with_reducible apply ES_callOwn (f := 143)); exact rfl; (intro w hw; exact h1 w (hw.rd rfl hT) (hw.rd rfl hA)); exact rfl); (first | exact rfl | exact ⟨rfl, rfl, rfl⟩); (rintro _ _ ⟨A, c, rfl, rfl⟩); (try refine ⟨SUB, ?_⟩)) | fail)
  · have h3 : ¬ R3 = 0 := by assumption
    (refine At_ret Try.results159 rfl (fun w' hw => ?_))
    rw [if_pos h3, if_neg h3]
    exact ⟨none, 0, rfl, Own.nil _ _, hw.below0 rfl⟩
  · have h3 : R3 = 0 := by assumption
    (refine At_ret Try.results159 rfl (fun w' hw => ?_))
    have e : (if R3 ≠ 0 then R3 else if t < 0 ∨ ts.length ≤ t then 4 else 0) = 4 := by rw [if_neg (by simpa using h3), if_pos (by omega)]
    rw [e, if_neg (by decide)]
    exact ⟨none, 0, rfl, Own.nil _ _, hw.below0 rfl⟩
  · have h3 : R3 = 0 := by assumption
    (refine At_ret Try.results159 rfl (fun w' hw => ?_))
    have e : (if R3 ≠ 0 then R3 else if t < 0 ∨ ts.length ≤ t then 4 else 0) = 4 := by rw [if_neg (by simpa using h3), if_pos (by omega)]
    rw [e, if_neg (by decide)]
    exact ⟨none, 0, rfl, Own.nil _ _, hw.below0 rfl⟩
  have h3 : R3 = 0 := by assumption
  have hl2 := hlong h3
  have e : (if R3 ≠ 0 then R3 else if t < 0 ∨ ts.length ≤ t then 4 else 0) = 0 := by rw [if_neg (by simpa using h3), if_neg (by omega)]
  rw [e, if_pos rfl]
  refine T_loop (X := Nat × Option Addr × Nat) (fun x => [(34, .int .i64 (x.1 : Nat)), (33, .int .i64 l.length), (32, .slice B0 l.length d0), (11, .slice x.2.1 (partL l t x.1).length x.2.2), (2, .int .i64 t)])
    (fun x => [entOwn Ev.enc 4 45 x.2.1 x.2.2 (partL l t x.1)]) (fun x => x.1 ≤ l.length) (fun x => l.length - x.1) (0, none, 0) (by simp) (by (repeat (first | exact SubE.nil _ | refine SubE.cons rfl ?_))) (fun w hw => (hw.sub (List.nil_sublist _)).nilOwn Ev.enc 4 45) ?_
  rintro ⟨k, A1, c1⟩ hk
  dsimp only at hk ⊢
  have hpl := partL_len l t k
  by_cases hlt : k < l.length
  · obtain ⟨b, o, rfl, hb0⟩ := RdE.open hA (by omega)
    repeat' (first | (refine GO ?_) | (refine GOE ?_; (first | (rintro _ _ ⟨rfl, rfl⟩) | (rintro _ _ ⟨g, rfl, rfl⟩) | (rintro _ _ ⟨A', c', rfl, rfl⟩))) | ((refine GO2 ?_ ?_) <;> intro h <;> (try (repeat (first | with_reducible (replace h := of_decide_eq_true h) | with_reducible (replace h := of_decide_eq_false h) | with_reducible (replace h := bnt h) | with_reducible (replace h := bnf h) | with_reducible (replace h := Int.not_lt.mp h) | with_reducible (replace h := Int.not_le.mp h) | with_reducible (replace h := band_dec h) | with_reducible (replace h := band_decF h) | with_reducible (replace h := bor_dec h) | with_reducible (replace h := bor_decF h)))) <;> (try (exfalso; first | contradiction | omega))) | ((with_reducible (first | apply TD_e2z | apply TD_e3z | apply TL_e | apply TD_e2 | apply TD_e3)); ((with_reducible apply ES_append1 (enc := Ev.enc) (xx := l[k])); exact rfl; exact rfl; (repeat (first | with_reducible exact List.mem_cons_self | with_reducible apply List.mem_cons_of_mem)); exact rfl; exact fun _ => rfl; exact fun _ => rfl; (intro A' c'; first | ((repeat (first | with_reducible exact Upd.here _ _ _ | with_reducible apply Upd.there)); done) | (repeat (first | exact Upd.here _ _ _ | apply Upd.there))); (omega); decide; exact rfl); (first | exact rfl | exact ⟨rfl, rfl, rfl⟩); (rintro _ _ ⟨A', c', rfl, rfl⟩); (try refine ⟨SUB, ?_⟩)) | fail)
    · rw [partL_yes hlt (by assumption)]
      refine At_rounds (k + 1, A', c') (by show k + 1 ≤ l.length; omega) (by dsimp only; omega) (by (repeat (first | exact SubE.nil _ | refine SubE.cons rfl ?_))) (fun w hw => hw.sel (by (repeat (first | exact Sel.nil _ | (apply Sel.cons; (repeat (first | with_reducible exact Pick.here _ _ | with_reducible apply Pick.there)))))))
    · rw [partL_no hlt (by assumption)]
      refine At_rounds (k + 1, A1, c1) (by show k + 1 ≤ l.length; omega) (by dsimp only; omega) (by (repeat (first | exact SubE.nil _ | refine SubE.cons rfl ?_))) (fun w hw => hw.sel (by (repeat (first | exact Sel.nil _ | (apply Sel.cons; (repeat (first | with_reducible exact Pick.here _ _ | with_reducible apply Pick.there)))))))
  · obtain rfl : k = l.length := by omega
    repeat' (first | (refine GO ?_) | (refine GOE ?_; (first | (rintro _ _ ⟨rfl, rfl⟩) | (rintro _ _ ⟨g, rfl, rfl⟩) | (rintro _ _ ⟨A', c', rfl, rfl⟩))) | ((refine GO2 ?_ ?_) <;> intro h <;> (try (repeat (first | with_reducible (replace h := of_decide_eq_true h) | with_reducible (replace h := of_decide_eq_false h) | with_reducible (replace h := bnt h) | with_reducible (replace h := bnf h) | with_reducible (replace h := Int.not_lt.mp h) | with_reducible (replace h := Int.not_le.mp h) | with_reducible (replace h := band_dec h) | with_reducible (replace h := band_decF h) | with_reducible (replace h := bor_dec h) | with_reducible (replace h := bor_decF h)))) <;> (try (exfalso; first | contradiction | omega))) | fail)
    (refine At_ret Try.results159 rfl (fun w' hw => ?_))
    exact ⟨A1, c1, rfl, hw.ownOut rfl (by first | ((repeat (first | with_reducible exact List.mem_cons_self | with_reducible apply List.mem_cons_of_mem)); done) | (repeat (first | exact List.Mem.head _ | apply List.Mem.tail))), hw.below0 rfl⟩
end
end Go.Proofs.Ytiimjppceobkfaa

namespace Go.Proofs.Ytiimjppceobkfaa
open Go.RowKit

theorem atL_succ (cs : List Cl) (t : Int) {k : Nat} (hk : k < cs.length) : atL cs t (k + 1) = if cs[k].thing = t then atL cs t k ++ [(k : Int)] else atL cs t k := by
  rw [atL, show cs.getD k default = cs[k] by simp [hk]]
theorem bigT_at {ts : List Int} {cs : List Cl} {t : Nat} (ht : t < ts.length) (h : 9 < (atL cs (t : Int) cs.length).length ∨ 12 < cs.length) : bigT ts cs = true := by
  unfold bigT
  rw [Bool.or_eq_true, List.any_eq_true]
  rcases h with h | h
  · exact .inr ⟨t, List.mem_range.2 ht, decide_eq_true h⟩
  · exact .inl (decide_eq_true h)
theorem bigT_no {ts : List Int} {cs : List Cl} (h12 : cs.length ≤ 12) (h : ∀ t, t < ts.length → (atL cs (t : Int) cs.length).length ≤ 9) : bigT ts cs = false := by
  unfold bigT
  rw [Bool.or_eq_false_iff, List.any_eq_false]
  refine ⟨decide_eq_false (by omega), fun t ht => ?_⟩
  rw [decide_eq_true_eq]
  have := h t (List.mem_range.1 ht)
  omega
section
variable (A0 B0 : Option Addr) (c0 d0 : Nat) (ts : List Int) (l : List Ev) (w : World) (hts : ts.length ≤ 9223372036854775807) (hl : l.length ≤ 9223372036854775807) (hT : RdInt w A0 ts) (hA : RdEv w B0 l)
include hts hl hT hA
set_option maxRecDepth 100000 in
set_option maxHeartbeats 4000000 in
theorem locals_any : Calls Try.prog 31 #[.slice A0 ts.length c0, .slice B0 l.length d0] w fun e w' => ∃ A c, e = .returned (.tuple #[.slice A (localS ts l).1.length c, .int .i64 (localS ts l).2]) ∧ Own Cl.enc 7 76 w' w.heap.size (.slice A (localS ts l).1.length c) (localS ts l).1 ∧ Below w.heap.size w w' := by
  have h1 := fun w h1 h2 => callsOf_any A0 B0 c0 d0 ts l w hts hl h1 h2
  have h200 := callsR_len ts l
  have hin := callsR_inv (ts := ts) (l := l)
  unfold localS
  generalize callsR ts l = R at *
  obtain ⟨cs, at_, er⟩ := R
  dsimp only at h1 h200 hin ⊢
  refine calls_T (S := []) [] Try.func31 rfl Try.ntmps31 (by simp) (Mem.nil _) ?_
  repeat' (first | (refine GO ?_) | (refine GOE ?_; (first | (rintro _ _ ⟨rfl, rfl⟩) | (rintro _ _ ⟨g, rfl, rfl⟩) | (rintro _ _ ⟨A', c', rfl, rfl⟩))) | ((refine GO2 ?_ ?_) <;> intro h <;> (try (repeat (first | with_reducible (replace h := of_decide_eq_true h) | with_reducible (replace h := of_decide_eq_false h) | with_reducible (replace h := bnt h) | with_reducible (replace h := bnf h) | with_reducible (replace h := Int.not_lt.mp h) | with_reducible (replace h := Int.not_le.mp h) | with_reducible (replace h := band_dec h) | with_reducible (replace h := band_decF h) | with_reducible (replace h := bor_dec h) | with_reducible (replace h := bor_decF h)))) <;> (try (exfalso; first | contradiction | omega))) | ((with_reducible (first | apply TD_e2z | apply TD_e3z | apply TL_e | apply TD_e2 | apply TD_e3)); ((with_reducible apply ES_callOwn (f := 41)); exact rfl; (intro w hw; exact h1 w (hw.rd rfl hT) (hw.rd rfl hA)); exact rfl); (first | exact rfl | exact ⟨rfl, rfl, rfl⟩); (rintro _ _ ⟨A1, c1, rfl, rfl⟩); (try refine ⟨SUB, ?_⟩)) | fail)
  · (refine At_ret Try.results31 rfl (fun w' hw => ?_))
    rw [if_pos (by assumption)]
    exact ⟨none, 0, rfl, Own.nil _ _, hw.below0 rfl⟩
  have he0 : er = 0 := by assumption
  subst he0
  have ht1 : 1 ≤ ts.length := by
    have := (hin rfl).1
    unfold typesOk at this
    rw [Bool.and_eq_true, decide_eq_true_eq] at this
    exact this.1.1
  rw [if_neg (by simp)]
  clear hin
  refine T_loop (X := Nat) (fun k => [(25, .int .i64 (k : Nat)), (24, .int .i64 ts.length), (6, .slice A1 cs.length c1)]) (fun _ => [entOwn Cl.enc 7 76 A1 c1 cs])
    (fun k => k ≤ ts.length ∧ (∀ t, t < k → (atL cs (t : Int) cs.length).length ≤ 9) ∧ (0 < k → cs.length ≤ 12)) (fun k => ts.length - k) 0 ⟨by omega, fun t h => by omega, fun h => by omega⟩ (by (repeat (first | exact SubE.nil _ | refine SubE.cons rfl ?_))) (by exact SUBS) ?_
  rintro k ⟨hk, hno, h12⟩
  by_cases hkl : k < ts.length
  · repeat' (first | (refine GO ?_) | (refine GOE ?_; (first | (rintro _ _ ⟨rfl, rfl⟩) | (rintro _ _ ⟨g, rfl, rfl⟩) | (rintro _ _ ⟨A', c', rfl, rfl⟩))) | ((refine GO2 ?_ ?_) <;> intro h <;> (try (repeat (first | with_reducible (replace h := of_decide_eq_true h) | with_reducible (replace h := of_decide_eq_false h) | with_reducible (replace h := bnt h) | with_reducible (replace h := bnf h) | with_reducible (replace h := Int.not_lt.mp h) | with_reducible (replace h := Int.not_le.mp h) | with_reducible (replace h := band_dec h) | with_reducible (replace h := band_decF h) | with_reducible (replace h := bor_dec h) | with_reducible (replace h := bor_decF h)))) <;> (try (exfalso; first | contradiction | omega))) | fail)
    refine T_loop (X := Nat) (fun q => [(30, .int .i64 (q : Nat)), (29, .int .i64 cs.length), (28, .slice A1 cs.length c1), (10, .int .i64 (atL cs (k : Int) q).length), (9, .int .i64 (k : Nat)), (25, .int .i64 (k : Nat)), (24, .int .i64 ts.length), (6, .slice A1 cs.length c1)]) (fun _ => [entOwn Cl.enc 7 76 A1 c1 cs])
      (fun q => q ≤ cs.length) (fun q => cs.length - q) 0 (by omega) (by (repeat (first | exact SubE.nil _ | refine SubE.cons rfl ?_))) (by exact SUBS) ?_
    intro q hq
    have hal := atL_len cs (k : Int) q
    by_cases hql : q < cs.length
    · have hs := atL_succ cs (k : Int) hql
      refine T_own (enc := Cl.enc) (ls := cs) (by first | ((repeat (first | with_reducible exact List.mem_cons_self | with_reducible apply List.mem_cons_of_mem)); done) | (repeat (first | exact List.Mem.head _ | apply List.Mem.tail))) (by omega) ?_
      rintro gA rfl
      generalize atL cs (k : Int) q = L at *
      repeat' (first | (refine GO ?_) | (refine GOE ?_; (first | (rintro _ _ ⟨rfl, rfl⟩) | (rintro _ _ ⟨g, rfl, rfl⟩) | (rintro _ _ ⟨A', c', rfl, rfl⟩))) | ((refine GO2 ?_ ?_) <;> intro h <;> (try (repeat (first | with_reducible (replace h := of_decide_eq_true h) | with_reducible (replace h := of_decide_eq_false h) | with_reducible (replace h := bnt h) | with_reducible (replace h := bnf h) | with_reducible (replace h := Int.not_lt.mp h) | with_reducible (replace h := Int.not_le.mp h) | with_reducible (replace h := band_dec h) | with_reducible (replace h := band_decF h) | with_reducible (replace h := bor_dec h) | with_reducible (replace h := bor_decF h)))) <;> (try (exfalso; first | contradiction | omega))) | fail)
      · refine At_rounds (q + 1) hql (by omega) ?_ (by exact SUBS)
        rw [hs, if_pos (by assumption), List.length_append, List.length_singleton]
        (repeat (first | exact SubE.nil _ | refine SubE.cons rfl ?_))
      · refine At_rounds (q + 1) hql (by omega) ?_ (by exact SUBS)
        rw [hs, if_neg (by assumption)]
        (repeat (first | exact SubE.nil _ | refine SubE.cons rfl ?_))
    · obtain rfl : q = cs.length := by omega
      have hbig := fun h => bigT_at (ts := ts) (cs := cs) hkl h
      obtain ⟨N, hN⟩ : ∃ N, (atL cs (k : Int) cs.length).length = N := ⟨_, rfl⟩
      rw [hN] at hbig hal ⊢
      repeat' (first | (refine GO ?_) | (refine GOE ?_; (first | (rintro _ _ ⟨rfl, rfl⟩) | (rintro _ _ ⟨g, rfl, rfl⟩) | (rintro _ _ ⟨A', c', rfl, rfl⟩))) | ((refine GO2 ?_ ?_) <;> intro h <;> (try (repeat (first | with_reducible (replace h := of_decide_eq_true h) | with_reducible (replace h := of_decide_eq_false h) | with_reducible (replace h := bnt h) | with_reducible (replace h := bnf h) | with_reducible (replace h := Int.not_lt.mp h) | with_reducible (replace h := Int.not_le.mp h) | with_reducible (replace h := band_dec h) | with_reducible (replace h := band_decF h) | with_reducible (replace h := bor_dec h) | with_reducible (replace h := bor_decF h)))) <;> (try (exfalso; first | contradiction | omega))) | fail)
      all_goals first
        | ((refine At_ret Try.results31 rfl (fun w' hw => ?_))
           rw [if_pos (hbig (by omega))]
           exact ⟨none, 0, rfl, Own.nil _ _, hw.below0 rfl⟩)
        | (refine At_rounds (k + 1) ⟨by omega, fun t ht => ?_, fun _ => by omega⟩ (by omega) (by (repeat (first | exact SubE.nil _ | refine SubE.cons rfl ?_))) (by exact SUBS)
           by_cases e : t = k
           · subst e; omega
           · exact hno t (by omega))
  · obtain rfl : k = ts.length := by omega
    rw [bigT_no (h12 (by omega)) hno, if_neg (by simp)]
    repeat' (first | (refine GO ?_) | (refine GOE ?_; (first | (rintro _ _ ⟨rfl, rfl⟩) | (rintro _ _ ⟨g, rfl, rfl⟩) | (rintro _ _ ⟨A', c', rfl, rfl⟩))) | ((refine GO2 ?_ ?_) <;> intro h <;> (try (repeat (first | with_reducible (replace h := of_decide_eq_true h) | with_reducible (replace h := of_decide_eq_false h) | with_reducible (replace h := bnt h) | with_reducible (replace h := bnf h) | with_reducible (replace h := Int.not_lt.mp h) | with_reducible (replace h := Int.not_le.mp h) | with_reducible (replace h := band_dec h) | with_reducible (replace h := band_decF h) | with_reducible (replace h := bor_dec h) | with_reducible (replace h := bor_decF h)))) <;> (try (exfalso; first | contradiction | omega))) | fail)
    (refine At_ret Try.results31 rfl (fun w' hw => ?_))
    exact ⟨A1, c1, rfl, hw.ownOut rfl (by first | ((repeat (first | with_reducible exact List.mem_cons_self | with_reducible apply List.mem_cons_of_mem)); done) | (repeat (first | exact List.Mem.head _ | apply List.Mem.tail))), hw.below0 rfl⟩
end
/-! what is found of one thing's part -/
def ownL (cs : List Cl) (t : Int) : List Cl := cs.filter fun c => decide (c.thing = t)
theorem part_kept {ts : List Int} {l : List Ev} (t : Int) (hv : ∀ j, j < l.length → erR ts l j = 0) : Kept ts l (fun k => decide ((l.getD k default).thing = t)) (fun c => decide (c.thing = t)) := by
  refine ⟨fun c r q => rfl, fun k hk _ => ?_, fun k hk h0 m hm hw ht => ?_⟩
  · dsimp only; rw [show l.getD k default = l[k] by simp [hk]]
  · have he := hv k hk
    unfold erR at he
    rw [show l.getD k default = l[k] by simp [hk]] at he ⊢
    obtain ⟨_, hc⟩ := evR_yes he
    rcases hc with ⟨_, q, _, hq, hqw, hqt, hth, _⟩ | ⟨h1, _⟩
    · rw [show (stR ts l k).getD q default = (stR ts l k)[q] by simp [hq]] at hqw hqt hth
      have : m = q := st_one hm hq (hw.trans hqw.symm) ht hqt
      subst this
      rw [hth]
    · exact absurd h0 h1
theorem partL_keep (l : List Ev) (t : Int) : ∀ k, k ≤ l.length → partL l t k = keepL l (fun k => decide ((l.getD k default).thing = t)) k
  | 0, _ => rfl
  | k + 1, hk => by
    have ih := partL_keep l t k (by omega)
    have hg : l.getD k default = l[k] := by simp [show k < l.length by omega]
    rw [keepL, ← ih]
    by_cases e : l[k].thing = t
    · rw [if_pos (by rw [hg]; exact decide_eq_true e), hg, partL_yes (by omega) e]
    · rw [if_neg (by rw [hg]; simpa using e), partL_no (by omega) e]
/-- the least order of a thing's own calls -/
def ownO (ts : List Int) (cs : List Cl) (t : Int) : Option (List Stp) := srchR ts (ownL cs t) (relAhead (ownL cs t)) (ownL cs t).length []
theorem ownL_len (cs : List Cl) (t : Int) : (ownL cs t).length = (atL cs t cs.length).length := by
  have key : ∀ k, k ≤ cs.length → ((cs.take k).filter fun c => decide (c.thing = t)).length = (atL cs t k).length := by
    intro k
    induction k with
    | zero => intro _; simp [atL]
    | succ k ih =>
      intro hk
      have := ih (by omega)
      rw [List.take_succ_eq_append_getElem (by omega), List.filter_append, List.length_append, this, atL_succ cs t (by omega)]
      by_cases e : cs[k].thing = t
      · simp [e]
      · simp [e]
  have := key cs.length (Nat.le_refl _)
  rw [List.take_length] at this
  exact this
theorem part_found {ts : List Int} {l : List Ev} {t : Nat} (h0 : (callsR ts l).2.2 = 0) (ht : t < ts.length) (h9 : (atL (callsR ts l).1 (t : Int) (callsR ts l).1.length).length ≤ 9) :
    partE ts l (t : Int) = 0 ∧ findS ts (partR ts l (t : Int)) relAhead = ownO ts (callsR ts l).1 (t : Int) := by
  obtain ⟨h1, h2, h3, h4⟩ := callsR_inv h0
  have hpe : partE ts l (t : Int) = 0 := by unfold partE; rw [if_neg (by simp [h0]), if_neg (by omega)]
  refine ⟨hpe, ?_⟩
  have hK := part_kept (ts := ts) (l := l) (t : Int) h3
  have hcall := sub_calls h1 h2 hK h3
  have hpl := sub_places hK h3 l.length (Nat.le_refl _)
  unfold partR
  rw [if_pos hpe, partL_keep l (t : Int) l.length (Nat.le_refl _)]
  have hc := clsOk_st ts l l.length
  rw [← h4] at hcall hpl hc
  have hown : subL (fun k => decide ((l.getD k default).thing = (t : Int))) (fun c => decide (c.thing = (t : Int))) (callsR ts l).1 = (ownL (callsR ts l).1 t).map (subC fun k => decide ((l.getD k default).thing = (t : Int))) := rfl
  rw [hown] at hcall
  have hol := ownL_len (callsR ts l).1 (t : Int)
  have hmem : ∀ c ∈ ownL (callsR ts l).1 (t : Int), c ∈ (callsR ts l).1 ∧ decide (c.thing = (t : Int)) = true := fun c hc => List.mem_filter.1 hc
  generalize keepL l (fun k => decide ((l.getD k default).thing = (t : Int))) l.length = L' at *
  have hfew : fewS ts L' = ((ownL (callsR ts l).1 t).map (subC fun k => decide ((l.getD k default).thing = (t : Int))), 0) := by
    rw [fewS_ok (by rw [hcall]) (by rw [hcall]; simp; omega), hcall]
  have hsea := fewS_facts (ts := ts) (l := L') (by rw [hfew])
  unfold findS
  rw [hfew] at hsea ⊢
  dsimp only at hsea ⊢
  rw [if_pos rfl]
  have hfo : foundS ts ((ownL (callsR ts l).1 t).map (subC fun k => decide ((l.getD k default).thing = (t : Int)))) (relAhead ((ownL (callsR ts l).1 t).map (subC fun k => decide ((l.getD k default).thing = (t : Int))))) =
      srchR ts ((ownL (callsR ts l).1 t).map (subC fun k => decide ((l.getD k default).thing = (t : Int)))) (relAhead ((ownL (callsR ts l).1 t).map (subC fun k => decide ((l.getD k default).thing = (t : Int))))) ((ownL (callsR ts l).1 t).map (subC fun k => decide ((l.getD k default).thing = (t : Int)))).length [] :=
    srch_CR (relOk_ahead hsea) _ closed_nil
  rw [hfo, sub_ahead (fun c hcm => ?_), srch_sameC (sub_same _ _), List.length_map]
  · rfl
  · obtain ⟨q1, q2⟩ := hmem c hcm
    obtain ⟨i, hi, rfl⟩ := List.mem_iff_getElem.1 q1
    exact ⟨(hc.each i hi).place.1, hpl _ q1 q2⟩
end Go.Proofs.Ytiimjppceobkfaa
