/- Places of events: all filled once (plain). No condition. -/
import Derived.Test.YtppicbdaijiifaaCau1
set_option linter.unusedSimpArgs false
set_option linter.unusedVariables false
set_option linter.unusedSectionVars false
set_option linter.unnecessarySimpa false
namespace Go.Proofs.Ytppicbdaijiifaa
open Go.RowKit

def clSlots (c : Cl) : List (Int × Ev) := (c.from_, ⟨c.who, c.thing, c.kind, c.arg⟩) :: (if c.to = -1 then [] else [(c.to, ⟨c.who, c.thing, 0, c.res⟩)])
def slotsOf (cs : List Cl) : List (Int × Ev) := cs.flatMap clSlots
def inR (n : Nat) (s : Int × Ev) : Bool := decide (0 ≤ s.1) && decide (s.1 < n)
def cntAt (sl : List (Int × Ev)) (at_ : Nat) : Nat := sl.countP fun s => decide (s.1 = (at_ : Int))
def cntUp (sl : List (Int × Ev)) : Nat → Nat
  | 0 => 0
  | n + 1 => cntUp sl n + cntAt sl n
theorem cntTo_eq (sl : List (Int × Ev)) : ∀ n, cntUp sl n = sl.countP (inR n)
  | 0 => by
    rw [cntUp, List.countP_eq_zero.2]
    intro s _
    simp [inR]
  | n + 1 => by
    rw [cntUp, cntTo_eq sl n]
    induction sl with
    | nil => rfl
    | cons s sl ih =>
      have e : cntAt (s :: sl) n = cntAt sl n + if s.1 = (n : Int) then 1 else 0 := by
        unfold cntAt; rw [List.countP_cons]; simp
      rw [e, List.countP_cons, List.countP_cons]
      have h : (if inR (n + 1) s = true then 1 else 0) = (if inR n s = true then 1 else 0) + if s.1 = (n : Int) then 1 else 0 := by
        unfold inR
        simp only [Bool.and_eq_true, decide_eq_true_eq]
        split <;> split <;> split <;> omega
      rw [h]
      omega
/-- all places hold one: then all are in range -/
theorem all_in {sl : List (Int × Ev)} {n : Nat} (hn : sl.length = n) (h : ∀ a, a < n → cntAt sl a = 1) : ∀ s ∈ sl, inR n s = true := by
  have hc : ∀ m, m ≤ n → cntUp sl m = m := by
    intro m
    induction m with
    | zero => intro _; rfl
    | succ m ih => intro hm; rw [cntUp, ih (by omega), h m (by omega)]
  have := hc n (Nat.le_refl _)
  rw [cntTo_eq, ← hn] at this
  rw [← hn]
  exact List.countP_eq_length.1 this
/-- all in range, none twice: then all places hold one -/
theorem all_one {sl : List (Int × Ev)} {n : Nat} (hn : sl.length = n) (hin : ∀ s ∈ sl, inR n s = true) (h : ∀ a, a < n → cntAt sl a ≤ 1) : ∀ a, a < n → cntAt sl a = 1 := by
  have h1 : cntUp sl n = n := by rw [cntTo_eq, ← hn]; exact List.countP_eq_length.2 (by rw [hn]; exact hin)
  have hle : ∀ m, m ≤ n → cntUp sl m ≤ m := by
    intro m
    induction m with
    | zero => intro _; exact Nat.le_refl _
    | succ m ih => intro hm; have := ih (by omega); have := h m (by omega); rw [cntUp]; omega
  intro a ha
  refine Nat.le_antisymm (h a ha) (Nat.pos_of_ne_zero fun h0 => ?_)
  have hlt : ∀ m, a < m → m ≤ n → cntUp sl m < m := by
    intro m
    induction m with
    | zero => intro h; omega
    | succ m ih =>
      intro ham hm
      rw [cntUp]
      by_cases e : a = m
      · subst e; have := hle a (by omega); omega
      · have := ih (by omega) (by omega); have := h m (by omega); omega
  have := hlt n ha (Nat.le_refl _)
  omega
/-- the program's way: slot by slot into places that are free -/
def putS (out : List (Option Ev)) (s : Int × Ev) : Option (List (Option Ev)) :=
  if 0 ≤ s.1 ∧ s.1 < out.length ∧ out.getD s.1.toNat none = none then some (out.set s.1.toNat (some s.2)) else none
def putAll (out : List (Option Ev)) : List (Int × Ev) → Option (List (Option Ev))
  | [] => some out
  | s :: sl => match putS out s with
    | some o => putAll o sl
    | none => none
/-- what lies at a place, where each place holds one -/
def evAt (sl : List (Int × Ev)) (a : Nat) : Option Ev := (sl.find? fun s => decide (s.1 = (a : Int))).map (·.2)
theorem evAt_none {sl : List (Int × Ev)} {a : Nat} : evAt sl a = none ↔ cntAt sl a = 0 := by
  unfold evAt cntAt
  rw [Option.map_eq_none_iff, List.find?_eq_none, List.countP_eq_zero]
theorem evAt_snoc (sl : List (Int × Ev)) (s : Int × Ev) (a : Nat) : evAt (sl ++ [s]) a = (evAt sl a).or (if s.1 = (a : Int) then some s.2 else none) := by
  unfold evAt
  rw [List.find?_append]
  cases h : sl.find? fun s => decide (s.1 = (a : Int)) with
  | some x => simp
  | none =>
    by_cases e : s.1 = (a : Int)
    · simp [List.find?, e]
    · simp [List.find?, e]
theorem cntAt_snoc (sl : List (Int × Ev)) (s : Int × Ev) (a : Nat) : cntAt (sl ++ [s]) a = cntAt sl a + if s.1 = (a : Int) then 1 else 0 := by
  unfold cntAt; rw [List.countP_append, List.countP_singleton]; simp
/-- what the places hold behind some slots -/
structure Rep (out : List (Option Ev)) (p : List (Int × Ev)) (n : Nat) : Prop where
  len : out.length = n
  inr : ∀ s ∈ p, inR n s = true
  at_ : ∀ a, a < n → out.getD a none = evAt p a ∧ cntAt p a ≤ 1
theorem rep_nil (n : Nat) : Rep (List.replicate n none) [] n := ⟨by simp, by simp, fun a ha => by simp [evAt, cntAt, ha]⟩
theorem rep_put {out : List (Option Ev)} {p : List (Int × Ev)} {n : Nat} {s : Int × Ev} (h : Rep out p n) : (putS out s = none ∧ ¬ (inR n s = true ∧ cntAt p s.1.toNat = 0)) ∨ (∃ o, putS out s = some o ∧ o = out.set s.1.toNat (some s.2) ∧ Rep o (p ++ [s]) n) := by
  unfold putS
  rw [h.len]
  by_cases hin : 0 ≤ s.1 ∧ s.1 < n
  · have hlt : s.1.toNat < n := by omega
    have hs : ((s.1.toNat : Nat) : Int) = s.1 := by omega
    obtain ⟨h1, h2⟩ := h.at_ s.1.toNat hlt
    by_cases hz : cntAt p s.1.toNat = 0
    · right
      rw [if_pos ⟨hin.1, hin.2, by rw [h1]; exact evAt_none.2 hz⟩]
      refine ⟨_, rfl, rfl, by simp [h.len], fun x hx => ?_, fun a ha => ?_⟩
      · rcases List.mem_append.1 hx with hx | hx
        · exact h.inr x hx
        · obtain rfl : x = s := by simpa using hx
          simp [inR, hin.1, hin.2]
      · rw [evAt_snoc, cntAt_snoc]
        have hg : (out.set s.1.toNat (some s.2)).getD a none = if a = s.1.toNat then some s.2 else out.getD a none := by
          simp only [List.getD_eq_getElem?_getD, List.getElem?_set]
          by_cases e : s.1.toNat = a
          · subst e; simp [h.len, hlt]
          · rw [if_neg e, if_neg (fun h => e h.symm)]
        rw [hg]
        by_cases e : a = s.1.toNat
        · subst e
          rw [if_pos rfl, if_pos hs.symm, if_pos hs.symm, evAt_none.2 hz, hz]
          exact ⟨rfl, by omega⟩
        · rw [if_neg e, if_neg (by omega), if_neg (by omega), (h.at_ a ha).1]
          exact ⟨by cases evAt p a <;> rfl, by have := (h.at_ a ha).2; omega⟩
    · left
      rw [if_neg (fun hh => hz (evAt_none.1 (by rw [← h1]; exact hh.2.2)))]
      exact ⟨rfl, fun hh => hz hh.2⟩
  · left
    rw [if_neg (fun hh => hin ⟨hh.1, hh.2.1⟩)]
    refine ⟨rfl, fun hh => hin ?_⟩
    have := hh.1
    simpa [inR] using this
end Go.Proofs.Ytppicbdaijiifaa
