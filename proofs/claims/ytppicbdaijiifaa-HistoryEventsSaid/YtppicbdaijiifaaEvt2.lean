/- The two readings of calls as events: what each makes of them, and that they are one (plain). No condition. -/
import Derived.Test.YtppicbdaijiifaaEvt1
set_option linter.unusedSimpArgs false
set_option linter.unusedVariables false
set_option linter.unusedSectionVars false
set_option linter.unnecessarySimpa false
namespace Go.Proofs.Ytppicbdaijiifaa
open Go.RowKit

/-! readings that know the same types of what occurs -/
theorem evR_local {ts us : List Int} {x : Ev} (cs : List Cl) (i : Int) (h : 0 ≤ x.thing ∧ x.thing < ts.length ∧ x.thing < us.length ∧ ts.getD x.thing.toNat 0 = us.getD x.thing.toNat 0) : evR ts cs i x = evR us cs i x := by
  obtain ⟨_, h1, h2, h3⟩ := h
  have hf : formBad ts x = formBad us x := by
    unfold formBad
    rw [decide_eq_false (show ¬ (ts.length : Int) ≤ x.thing by omega), decide_eq_false (show ¬ (us.length : Int) ≤ x.thing by omega)]
  unfold evR
  rw [hf, h3]
theorem stR_local {ts us : List Int} {l : List Ev} (h : ∀ x ∈ l, 0 ≤ x.thing ∧ x.thing < ts.length ∧ x.thing < us.length ∧ ts.getD x.thing.toNat 0 = us.getD x.thing.toNat 0) : ∀ k, k ≤ l.length → stR ts l k = stR us l k
  | 0, _ => rfl
  | k + 1, hk => by
    have e : l.getD k default = l[k] := by rw [List.getD_eq_getElem?_getD, List.getElem?_eq_getElem (by omega)]; rfl
    rw [stR, stR, stR_local h k (by omega), e, evR_local _ _ (h l[k] (List.getElem_mem _))]
theorem erR_local {ts us : List Int} {l : List Ev} (h : ∀ x ∈ l, 0 ≤ x.thing ∧ x.thing < ts.length ∧ x.thing < us.length ∧ ts.getD x.thing.toNat 0 = us.getD x.thing.toNat 0) (k : Nat) (hk : k < l.length) : erR ts l k = erR us l k := by
  have e : l.getD k default = l[k] := by rw [List.getD_eq_getElem?_getD, List.getElem?_eq_getElem (by omega)]; rfl
  unfold erR
  rw [stR_local h k (by omega), e, evR_local _ _ (h l[k] (List.getElem_mem _))]
theorem find_congr {α : Type} {p q : α → Bool} : ∀ {l : List α}, (∀ x ∈ l, p x = q x) → l.find? p = l.find? q
  | [], _ => rfl
  | x :: l, h => by
    rw [List.find?_cons, List.find?_cons, h x (by simp), find_congr (l := l) fun y hy => h y (by simp [hy])]
theorem callsR_local {ts us : List Int} {l : List Ev} (h1 : typesOk ts = true) (h2 : typesOk us = true) (h : ∀ x ∈ l, 0 ≤ x.thing ∧ x.thing < ts.length ∧ x.thing < us.length ∧ ts.getD x.thing.toNat 0 = us.getD x.thing.toNat 0) : callsR ts l = callsR us l := by
  have hf : failR ts l = failR us l := by
    unfold failR
    rw [find_congr fun k hk => by rw [erR_local h k (by simpa using hk)]]
  unfold callsR
  rw [hf, stR_local h l.length (Nat.le_refl _)]
  simp only [typesE, h1, h2, if_true]
  by_cases hl : failR us l < l.length
  · rw [erR_local h _ hl]
  · rw [if_neg hl, if_neg hl]

/-! the types that each takes -/
def tyStep (ts : List Int) (c : Cl) : List Int := (ts ++ List.replicate (c.thing.toNat + 1 - ts.length) 1).set c.thing.toNat (max (typeF c.kind) 1)
def tyStepR (ts : List Int) (c : Cl) : List Int := if 0 ≤ c.thing ∧ c.thing ≤ 3 ∧ typeF c.kind ≠ 0 then ts.set c.thing.toNat (typeF c.kind) else ts
def tyP (cs : List Cl) : List Int := cs.foldl tyStep [1]
def tyR (cs : List Cl) : List Int := cs.foldl tyStepR [1, 1, 1, 1]
theorem tyP_snoc (cs : List Cl) (c : Cl) : tyP (cs ++ [c]) = tyStep (tyP cs) c := by unfold tyP; rw [List.foldl_append]; rfl
theorem tyR_snoc (cs : List Cl) (c : Cl) : tyR (cs ++ [c]) = tyStepR (tyR cs) c := by unfold tyR; rw [List.foldl_append]; rfl
theorem typeF_le (k : Int) : 0 ≤ typeF k ∧ typeF k ≤ 5 := by unfold typeF; repeat' split <;> omega
def In5 (ts : List Int) : Prop := ∀ t ∈ ts, 1 ≤ t ∧ t ≤ 5
theorem In5.ok {ts : List Int} (h : In5 ts) (h1 : 1 ≤ ts.length) (h4 : ts.length ≤ 4) : typesOk ts = true := by
  unfold typesOk
  rw [decide_eq_true ⟨h1, h4⟩, Bool.true_and, Bool.not_eq_true', List.any_eq_false]
  intro t ht
  have := h t ht
  simp only [badT, decide_eq_true_eq]; omega
structure TyP (ts : List Int) (cs : List Cl) : Prop where
  pos : 1 ≤ ts.length
  le : ts.length ≤ 4
  in5 : In5 ts
  has : ∀ c ∈ cs, c.thing < ts.length
theorem tyP_inv : ∀ {cs : List Cl}, (∀ c ∈ cs, 0 ≤ c.thing ∧ c.thing < 4) → TyP (tyP cs) cs := by
  intro cs
  suffices h : ∀ r : List Cl, (∀ c ∈ r.reverse, 0 ≤ c.thing ∧ c.thing < 4) → TyP (tyP r.reverse) r.reverse by
    have := h cs.reverse; rwa [List.reverse_reverse] at this
  intro r
  induction r with
  | nil => intro _; exact ⟨by simp [tyP], by simp [tyP], fun t ht => by simp [tyP] at ht; omega, fun c hc => by simp at hc⟩
  | cons c r ih =>
    intro h
    rw [List.reverse_cons] at h ⊢
    obtain ⟨i1, i2, i3, i4⟩ := ih fun x hx => h x (by simp at hx ⊢; exact .inl hx)
    have hc := h c (by simp)
    have ht := typeF_le c.kind
    rw [tyP_snoc]
    have hl : (tyStep (tyP r.reverse) c).length = max (tyP r.reverse).length (c.thing.toNat + 1) := by
      simp only [tyStep, List.length_set, List.length_append, List.length_replicate]; omega
    refine ⟨by omega, by omega, fun t hm => ?_, fun x hx => ?_⟩
    · rcases List.mem_or_eq_of_mem_set hm with hm | rfl
      · rcases List.mem_append.1 hm with hm | hm
        · exact i3 t hm
        · have := (List.mem_replicate.1 hm).2; omega
      · omega
    · rcases List.mem_append.1 hx with hx | hx
      · have := i4 x hx; omega
      · obtain rfl : x = c := by simpa using hx
        omega
theorem tyR_inv (cs : List Cl) : (tyR cs).length = 4 ∧ In5 (tyR cs) := by
  suffices h : ∀ (r : List Cl) (ts : List Int), ts.length = 4 ∧ In5 ts → (r.foldl tyStepR ts).length = 4 ∧ In5 (r.foldl tyStepR ts) from
    h cs _ ⟨rfl, fun t ht => by simp at ht; omega⟩
  intro r
  induction r with
  | nil => intro ts h; exact h
  | cons c r ih =>
    intro ts h
    refine ih _ ?_
    unfold tyStepR
    split
    · rename_i hc
      have := typeF_le c.kind
      refine ⟨by simp [h.1], fun t ht => ?_⟩
      rcases List.mem_or_eq_of_mem_set ht with ht | rfl
      · exact h.2 t ht
      · omega
    · exact h
theorem getD_set {α : Type} (l : List α) (i j : Nat) (x d : α) (hi : i < l.length) : (l.set i x).getD j d = if j = i then x else l.getD j d := by
  rw [List.getD_eq_getElem?_getD, List.getElem?_set, List.getD_eq_getElem?_getD]
  by_cases e : i = j
  · subst e; simp [hi]
  · rw [if_neg e, if_neg fun h => e h.symm]
theorem ty_same : ∀ {cs : List Cl}, (∀ c ∈ cs, 0 ≤ c.thing ∧ c.thing < 4 ∧ typeF c.kind ≠ 0) → ∀ c ∈ cs, (tyP cs).getD c.thing.toNat 0 = (tyR cs).getD c.thing.toNat 0 := by
  intro cs
  suffices h : ∀ r : List Cl, (∀ c ∈ r.reverse, 0 ≤ c.thing ∧ c.thing < 4 ∧ typeF c.kind ≠ 0) → ∀ c ∈ r.reverse, (tyP r.reverse).getD c.thing.toNat 0 = (tyR r.reverse).getD c.thing.toNat 0 by
    have := h cs.reverse; rwa [List.reverse_reverse] at this
  intro r
  induction r with
  | nil => intro _ c hc; simp at hc
  | cons c r ih =>
    intro h
    rw [List.reverse_cons] at h ⊢
    have hr := fun x hx => h x (List.mem_append_left _ hx)
    have ih' := ih hr
    have hI := tyP_inv fun x hx => ⟨(hr x hx).1, (hr x hx).2.1⟩
    obtain ⟨j1, _⟩ := tyR_inv r.reverse
    obtain ⟨c1, c2, c3⟩ := h c (by simp)
    have ht := typeF_le c.kind
    intro x hx
    have hxb := h x hx
    rw [tyP_snoc, tyR_snoc, tyStepR, if_pos ⟨c1, by omega, c3⟩, tyStep, getD_set _ _ _ _ _ (by simp; omega), getD_set _ _ _ _ _ (by omega)]
    by_cases e : x.thing.toNat = c.thing.toNat
    · rw [if_pos e, if_pos e]; omega
    · rw [if_neg e, if_neg e]
      have hx' : x ∈ r.reverse := by
        rcases List.mem_append.1 hx with hx | hx
        · exact hx
        · obtain rfl : x = c := by simpa using hx
          exact absurd rfl e
      rw [← ih' x hx']
      have := hI.has x hx'
      rw [List.getD_eq_getElem?_getD, List.getElem?_append_left (by omega), ← List.getD_eq_getElem?_getD]

/-! the two answers -/
def outL (cs : List Cl) : List Ev := (List.range (slotsOf cs).length).map fun a => (evAt (slotsOf cs) a).getD default
def backOk (ts : List Int) (l : List Ev) (cs : List Cl) : Bool := decide ((callsR ts l).2.2 = 0) && decide ((callsR ts l).1 = cs)
def filled (cs : List Cl) : Prop := ∀ a, a < (slotsOf cs).length → cntAt (slotsOf cs) a = 1
instance (cs : List Cl) : Decidable (filled cs) := by unfold filled; infer_instance
def thingsOk (cs : List Cl) : Prop := ∀ c ∈ cs, 0 ≤ c.thing ∧ c.thing < 4
instance (cs : List Cl) : Decidable (thingsOk cs) := by unfold thingsOk; infer_instance
/-- the program's answer to calls that are not too many -/
def evsP (cs : List Cl) : List Ev × Int :=
  if thingsOk cs ∧ filled cs ∧ backOk (tyP cs) (outL cs) cs = true then (outL cs, 0) else ([], 3)
/-- the document's -/
def evsR (cs : List Cl) : List Ev × Bool := if filled cs then (outL cs, backOk (tyR cs) (outL cs) cs) else ([], false)
theorem slots_mem {cs : List Cl} {s : Int × Ev} (h : s ∈ slotsOf cs) : ∃ c ∈ cs, s.2.thing = c.thing := by
  obtain ⟨c, hc, hs⟩ := List.mem_flatMap.1 h
  refine ⟨c, hc, ?_⟩
  unfold clSlots at hs
  rcases List.mem_cons.1 hs with rfl | hs
  · rfl
  · split at hs
    · simp at hs
    · obtain rfl : s = _ := by simpa using hs
      rfl
theorem outL_mem {cs : List Cl} (hf : filled cs) {x : Ev} (h : x ∈ outL cs) : ∃ c ∈ cs, x.thing = c.thing := by
  obtain ⟨a, ha, rfl⟩ := List.mem_map.1 h
  have hc := hf a (by simpa using ha)
  cases he : evAt (slotsOf cs) a with
  | none => rw [evAt_none.1 he] at hc; omega
  | some v =>
    unfold evAt at he
    rw [Option.map_eq_some_iff] at he
    obtain ⟨s, hs, rfl⟩ := he
    exact slots_mem (List.mem_of_find?_eq_some hs)
theorem back_kinds {ts : List Int} {l : List Ev} {cs : List Cl} (h : backOk ts l cs = true) : typesOk ts = true ∧ ∀ c ∈ cs, 0 ≤ c.thing ∧ c.thing < ts.length ∧ typeF c.kind ≠ 0 := by
  simp only [backOk, Bool.and_eq_true, decide_eq_true_eq] at h
  obtain ⟨h0, h1⟩ := h
  obtain ⟨t1, _, _, t4⟩ := callsR_inv h0
  rw [h1] at t4
  refine ⟨t1, fun c hc => ?_⟩
  have hI := clsOk_st ts l l.length
  rw [← t4] at hI
  obtain ⟨q, hq, rfl⟩ := List.getElem_of_mem hc
  have hC := hI.each q hq
  refine ⟨hC.thing.1, hC.thing.2, fun hz => ?_⟩
  have hk := hC.kind
  rw [← typeF_kinds] at hk
  simp only [fitsB, decide_eq_true_eq] at hk
  exact hk.1 (by rw [← hk.2]; exact hz)
/-- both readings say the same -/
theorem evs_same (cs : List Cl) : evsP cs = if (evsR cs).2 = true then ((evsR cs).1, 0) else ([], 3) := by
  unfold evsP evsR
  by_cases hf : filled cs
  · rw [if_pos hf]
    dsimp only
    have key : (thingsOk cs ∧ filled cs ∧ backOk (tyP cs) (outL cs) cs = true) ↔ backOk (tyR cs) (outL cs) cs = true := by
      have loc : (∀ c ∈ cs, 0 ≤ c.thing ∧ c.thing < 4 ∧ typeF c.kind ≠ 0) → callsR (tyP cs) (outL cs) = callsR (tyR cs) (outL cs) := by
        intro h
        have hI := tyP_inv fun c hc => ⟨(h c hc).1, (h c hc).2.1⟩
        obtain ⟨j1, j2⟩ := tyR_inv cs
        refine callsR_local (hI.in5.ok hI.pos hI.le) (j2.ok (by omega) (by omega)) fun x hx => ?_
        obtain ⟨c, hc, e⟩ := outL_mem hf hx
        rw [e]
        have := hI.has c hc
        have := h c hc
        exact ⟨this.1, by omega, by omega, ty_same h c hc⟩
      constructor
      · rintro ⟨h1, _, h3⟩
        obtain ⟨_, hk⟩ := back_kinds h3
        unfold backOk at h3 ⊢
        rw [← loc fun c hc => ⟨(h1 c hc).1, (h1 c hc).2, (hk c hc).2.2⟩]
        exact h3
      · intro h3
        obtain ⟨_, hk⟩ := back_kinds h3
        have h4 : ∀ c ∈ cs, 0 ≤ c.thing ∧ c.thing < 4 ∧ typeF c.kind ≠ 0 := fun c hc => by
          have := hk c hc
          have := (tyR_inv cs).1
          exact ⟨by omega, by omega, (hk c hc).2.2⟩
        refine ⟨fun c hc => ⟨(h4 c hc).1, (h4 c hc).2.1⟩, hf, ?_⟩
        unfold backOk at h3 ⊢
        rw [loc h4]
        exact h3
    by_cases hb : backOk (tyR cs) (outL cs) cs = true
    · rw [if_pos (key.2 hb), if_pos hb]
    · rw [if_neg fun h => hb (key.1 h), if_neg hb]
  · rw [if_neg hf, if_neg fun h => hf h.2.1]
    simp
/-! the program's way, slot by slot -/
theorem slotsOf_snoc (cs : List Cl) (c : Cl) : slotsOf (cs ++ [c]) = slotsOf cs ++ clSlots c := by simp [slotsOf]
theorem take_snoc {α : Type} {l : List α} {k : Nat} (h : k < l.length) : l.take (k + 1) = l.take k ++ [l[k]] := by
  rw [List.take_add_one, List.getElem?_eq_getElem h]; rfl
theorem cntAt_append (p q : List (Int × Ev)) (a : Nat) : cntAt (p ++ q) a = cntAt p a + cntAt q a := by unfold cntAt; rw [List.countP_append]
/-- a slot that finds no place: then not all places hold one -/
theorem not_filled {cs : List Cl} {p q : List (Int × Ev)} {s : Int × Ev} (hs : slotsOf cs = p ++ s :: q) (h : ¬ (inR (slotsOf cs).length s = true ∧ cntAt p s.1.toNat = 0)) : ¬ filled cs := by
  intro hf
  have hin := all_in rfl hf s (by rw [hs]; simp)
  refine h ⟨hin, ?_⟩
  simp only [inR, Bool.and_eq_true, decide_eq_true_eq] at hin
  have := hf s.1.toNat (by omega)
  rw [hs, cntAt_append] at this
  have h1 : 1 ≤ cntAt (s :: q) s.1.toNat := by
    unfold cntAt; rw [List.countP_cons]
    have : s.1 = ((s.1.toNat : Nat) : Int) := by omega
    rw [if_pos (by simpa using this)]; omega
  omega
theorem rep_filled {cs : List Cl} {out : List (Option Ev)} (h : Rep out (slotsOf cs) (slotsOf cs).length) : filled cs ∧ out.map (fun o => o.getD default) = outL cs := by
  refine ⟨all_one rfl h.inr fun a ha => (h.at_ a ha).2, ?_⟩
  apply List.ext_getElem?
  intro a
  unfold outL
  rw [List.getElem?_map, List.getElem?_map]
  by_cases ha : a < (slotsOf cs).length
  · have h1 := (h.at_ a ha).1
    rw [List.getElem?_eq_getElem (by rw [h.len]; exact ha), List.getElem?_range ha]
    rw [List.getD_eq_getElem?_getD, List.getElem?_eq_getElem (by rw [h.len]; exact ha)] at h1
    simp only [Option.getD_some] at h1
    simp [h1]
  · rw [List.getElem?_eq_none (by rw [h.len]; omega), List.getElem?_eq_none (by simp; omega)]
    rfl
/-! the document's way, place by place -/
def evsAt (sl : List (Int × Ev)) (a : Nat) : List Ev := (sl.filter fun s => decide (s.1 = (a : Int))).map (·.2)
theorem evsAt_len (sl : List (Int × Ev)) (a : Nat) : (evsAt sl a).length = cntAt sl a := by unfold evsAt cntAt; rw [List.length_map, List.countP_eq_length_filter]
theorem evsAt_append (p q : List (Int × Ev)) (a : Nat) : evsAt (p ++ q) a = evsAt p a ++ evsAt q a := by unfold evsAt; rw [List.filter_append, List.map_append]
theorem evsAt_one {sl : List (Int × Ev)} {a : Nat} (h : cntAt sl a = 1) : evsAt sl a = [(evAt sl a).getD default] := by
  have hl := evsAt_len sl a
  rw [h] at hl
  obtain ⟨v, hv⟩ := List.length_eq_one_iff.1 hl
  rw [hv]
  have he : evAt sl a = (evsAt sl a).head? := by
    unfold evAt evsAt
    rw [List.head?_map, List.head?_filter]
  rw [he, hv]; rfl
def outTo (cs : List Cl) (a : Nat) : List Ev := (List.range a).map fun a => (evAt (slotsOf cs) a).getD default
theorem outTo_succ {cs : List Cl} {a : Nat} (h : cntAt (slotsOf cs) a = 1) : outTo cs a ++ evsAt (slotsOf cs) a = outTo cs (a + 1) := by
  unfold outTo
  rw [List.range_succ, List.map_append, evsAt_one h]; rfl
theorem outTo_len (cs : List Cl) (a : Nat) : (outTo cs a).length = a := by simp [outTo]
theorem slots_len : ∀ cs : List Cl, (slotsOf cs).length = cs.length + cs.countP (fun c => decide (c.to ≠ -1))
  | [] => rfl
  | c :: cs => by
    have ih := slots_len cs
    unfold slotsOf at ih ⊢
    rw [List.flatMap_cons, List.length_append, ih, List.countP_cons]
    unfold clSlots
    by_cases h : c.to = -1
    · simp [h]; omega
    · simp [h]; omega
end Go.Proofs.Ytppicbdaijiifaa
