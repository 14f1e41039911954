/- Objects, plain laws: states, steps, sets as ascending lists. No condition. -/
import Derived.Test.YtkhdihieepfcpaaHist1
namespace Go.Proofs.Ytkhdihieepfcpaa
/-! Sets as ascending lists -/
def Asc (s : List Int) : Prop := s.Pairwise (· < ·)
def posI (s : List Int) (a : Int) : Nat := (s.takeWhile (fun x => decide (x < a))).length
def setStep (kind a : Int) (st : Int × List Int × Bool) (x : Int) : Int × List Int × Bool :=
  let was := if x = a then 1 else st.1
  let p := if a ≤ x ∧ st.2.2 = false then (st.2.1 ++ [a], true) else (st.2.1, st.2.2)
  (was, if x ≠ a ∨ kind = 9 then p.1 ++ [x] else p.1, p.2)
def setFin (kind a : Int) (st : Int × List Int × Bool) : List Int × Int :=
  (if st.2.2 = false then st.2.1 ++ [a] else st.2.1, if kind = 7 then 1 - st.1 else st.1)
def setR (s : List Int) (kind a : Int) : List Int × Int := setFin kind a (s.foldl (setStep kind a) (0, [], !decide (kind = 7)))
theorem pos_split {s : List Int} (h : Asc s) (a : Int) : (∀ x ∈ s.take (posI s a), x < a) ∧ (∀ x ∈ s.drop (posI s a), a ≤ x) ∧ posI s a ≤ s.length := by
  induction s with
  | nil => simp [posI]
  | cons y s ih =>
    obtain ⟨h1, h2⟩ := List.pairwise_cons.1 h
    obtain ⟨i1, i2, i3⟩ := ih h2
    unfold posI at i1 i2 i3 ⊢
    rw [List.takeWhile_cons]
    by_cases hy : y < a
    · simp only [hy, decide_true, if_true, List.length_cons, List.take_succ_cons, List.drop_succ_cons]
      exact ⟨fun x hx => by rcases List.mem_cons.1 hx with rfl | hx; exact hy; exact i1 x hx, i2, by omega⟩
    · simp only [hy, decide_false, Bool.false_eq_true, if_false, List.length_nil, List.take_zero, List.drop_zero]
      refine ⟨by simp, fun x hx => ?_, by simp⟩
      rcases List.mem_cons.1 hx with rfl | hx
      · omega
      · have := h1 x hx; omega
/-- where it stands is told by what is about it -/
theorem pos_of {s : List Int} {a : Int} {i : Nat} (hi : i ≤ s.length) (h1 : ∀ j (hj : j < s.length), j < i → s[j] < a) (h2 : ∀ j (hj : j < s.length), i ≤ j → a ≤ s[j]) : posI s a = i := by
  induction s generalizing i with
  | nil => simp at hi; subst hi; rfl
  | cons y s ih =>
    unfold posI at ih ⊢
    rw [List.takeWhile_cons]
    cases i with
    | zero =>
      have := h2 0 (by simp) (by omega)
      simp only [List.getElem_cons_zero] at this
      have hy : ¬ y < a := by omega
      simp [hy]
    | succ i =>
      have hy := h1 0 (by simp) (by omega)
      simp only [List.getElem_cons_zero] at hy
      simp only [hy, decide_true, if_true, List.length_cons]
      rw [ih (i := i) (by simpa using hi) (fun j hj hji => by have := h1 (j + 1) (by simpa using hj) (by omega); simpa using this) (fun j hj hji => by have := h2 (j + 1) (by simpa using hj) (by omega); simpa using this)]
theorem fold_low (kind a : Int) : ∀ (l : List Int) (was : Int) (out : List Int) (put : Bool), (∀ x ∈ l, x < a) → l.foldl (setStep kind a) (was, out, put) = (was, out ++ l, put)
  | [], was, out, put, _ => by simp
  | x :: l, was, out, put, h => by
    have hx := h x (by simp)
    rw [List.foldl_cons]
    have e1 : x ≠ a := by omega
    have e2 : ¬ a ≤ x := by omega
    have e : setStep kind a (was, out, put) x = (was, out ++ [x], put) := by simp [setStep, e1, e2]
    rw [e, fold_low kind a l _ _ _ (fun y hy => h y (by simp [hy]))]
    simp
theorem fold_high (kind a : Int) : ∀ (l : List Int) (was : Int) (out : List Int), (∀ x ∈ l, a < x) → l.foldl (setStep kind a) (was, out, true) = (was, out ++ l, true)
  | [], was, out, _ => by simp
  | x :: l, was, out, h => by
    have hx := h x (by simp)
    rw [List.foldl_cons]
    have e1 : x ≠ a := by omega
    have e : setStep kind a (was, out, true) x = (was, out ++ [x], true) := by simp [setStep, e1]
    rw [e, fold_high kind a l _ _ (fun y hy => h y (by simp [hy]))]
    simp
/-- what the code does to a set -/
def setP (s : List Int) (kind a : Int) : List Int × Int :=
  if s.contains a = true then (if kind = 7 then (s, 0) else if kind = 8 then (s.take (posI s a) ++ s.drop (posI s a + 1), 1) else (s, 1))
  else (if kind = 7 then (s.take (posI s a) ++ a :: s.drop (posI s a), 1) else (s, 0))
theorem setP_eq {s : List Int} (h : Asc s) (kind a : Int) (hk : kind = 7 ∨ kind = 8 ∨ kind = 9) : setR s kind a = setP s kind a := by
  obtain ⟨p1, p2, p3⟩ := pos_split h a
  unfold setP
  generalize posI s a = i at *
  have hs : s = s.take i ++ s.drop i := (List.take_append_drop i s).symm
  have hap : (s.drop i).Pairwise (· < ·) := h.sublist (List.drop_sublist i s)
  unfold setR
  conv => lhs; rw [hs, List.foldl_append, fold_low kind a _ _ _ _ p1]
  cases hd : s.drop i with
  | nil =>
    have hn : s.contains a = false := by
      rw [Bool.eq_false_iff]; intro hc
      have hm : a ∈ s := by simpa using hc
      rw [hs, hd, List.append_nil] at hm
      have := p1 a hm; omega
    rw [if_neg (by rw [hn]; simp)]
    have ht : s.take i = s := by rw [hd, List.append_nil] at hs; exact hs.symm
    rcases hk with rfl | rfl | rfl <;> simp [setFin, ht]
  | cons y r =>
    rw [hd] at hap p2 hs
    obtain ⟨q1, q2⟩ := List.pairwise_cons.1 hap
    have hy := p2 y (by simp)
    have hr : ∀ x ∈ r, a < x := fun x hx => by have := q1 x hx; omega
    have hdr : s.drop (i + 1) = r := by rw [← List.drop_drop, hd]; rfl
    by_cases e : y = a
    · subst e
      have hc : s.contains y = true := by rw [hs]; simp
      rw [if_pos hc, hdr]
      have e1 : ∀ (was : Int) (out : List Int) (put : Bool), setStep 7 y (was, out, false) y = (1, out ++ [y], true) := by intro was out put; simp [setStep]
      rcases hk with rfl | rfl | rfl
      · have : setStep 7 y (0, [] ++ s.take i, !decide ((7 : Int) = 7)) y = (1, s.take i ++ [y], true) := by simp [setStep]
        rw [List.foldl_cons, this, fold_high 7 y r _ _ hr]
        simp only [setFin]
        rw [if_neg (by simp), if_pos trivial, if_pos trivial]
        simp only [List.append_assoc, List.singleton_append]
        rw [← hs]; rfl
      · have : setStep 8 y (0, [] ++ s.take i, !decide ((8 : Int) = 7)) y = (1, s.take i, true) := by simp [setStep]
        rw [List.foldl_cons, this, fold_high 8 y r _ _ hr]
        simp [setFin]
      · have : setStep 9 y (0, [] ++ s.take i, !decide ((9 : Int) = 7)) y = (1, s.take i ++ [y], true) := by simp [setStep]
        rw [List.foldl_cons, this, fold_high 9 y r _ _ hr]
        simp only [setFin]
        rw [if_neg (by simp), if_neg (by decide), if_neg (by decide), if_neg (by decide)]
        simp only [List.append_assoc, List.singleton_append]
        rw [← hs]
    · have hya : a < y := by omega
      have hn : s.contains a = false := by
        rw [Bool.eq_false_iff]; intro hc
        have hm : a ∈ s := by simpa using hc
        rw [hs] at hm
        rcases List.mem_append.1 hm with hm | hm
        · have := p1 a hm; omega
        · rcases List.mem_cons.1 hm with rfl | hm
          · omega
          · have := hr a hm; omega
      rw [if_neg (by rw [hn]; simp)]
      have hay : a ≤ y := by omega
      rcases hk with rfl | rfl | rfl
      · have : setStep 7 a (0, [] ++ s.take i, !decide ((7 : Int) = 7)) y = (0, s.take i ++ [a] ++ [y], true) := by simp [setStep, e, hay]
        rw [List.foldl_cons, this, fold_high 7 a r _ _ hr]
        simp [setFin]
      · have : setStep 8 a (0, [] ++ s.take i, !decide ((8 : Int) = 7)) y = (0, s.take i ++ [y], true) := by simp [setStep, e]
        rw [List.foldl_cons, this, fold_high 8 a r _ _ hr]
        simp only [setFin]
        rw [if_neg (by simp), if_neg (by decide), if_neg (by decide)]
        simp only [List.append_assoc, List.singleton_append]
        rw [← hs]
      · have : setStep 9 a (0, [] ++ s.take i, !decide ((9 : Int) = 7)) y = (0, s.take i ++ [y], true) := by simp [setStep, e]
        rw [List.foldl_cons, this, fold_high 9 a r _ _ hr]
        simp only [setFin]
        rw [if_neg (by simp), if_neg (by decide), if_neg (by decide)]
        simp only [List.append_assoc, List.singleton_append]
        rw [← hs]
/-! States -/
def okI (x : Int) : Bool := decide (1 ≤ x) && decide (x ≤ 1000)
def ascB (s : List Int) : Bool := (List.range (s.length - 1)).all fun j => decide (s.getD j 0 < s.getD (j + 1) 0)
theorem ascB_iff (s : List Int) : ascB s = true ↔ ∀ j, j + 1 < s.length → s.getD j 0 < s.getD (j + 1) 0 := by
  unfold ascB
  rw [List.all_eq_true]
  constructor
  · intro h j hj
    simpa using h j (by rw [List.mem_range]; omega)
  · intro h j hj
    rw [List.mem_range] at hj
    simpa using h j (by omega)
theorem asc_of {s : List Int} (h : ascB s = true) : Asc s := by
  rw [ascB_iff] at h
  unfold Asc
  induction s with
  | nil => exact .nil
  | cons x s ih =>
    have hs := ih (fun j hj => by have := h (j + 1) (by simpa using hj); simpa using this)
    refine List.pairwise_cons.2 ⟨fun y hy => ?_, hs⟩
    cases s with
    | nil => simp at hy
    | cons z s =>
      have h0 := h 0 (by simp)
      simp only [List.getD_cons_zero, List.getD_cons_succ] at h0
      rcases List.mem_cons.1 hy with rfl | hy
      · exact h0
      · have := (List.pairwise_cons.1 hs).1 y hy
        omega
def oneB (s : List Int) : Bool := decide (s.length = 1) && (decide (0 ≤ s.getD 0 0) && decide (s.getD 0 0 ≤ 1000))
def validS (typ : Int) (s : List Int) : Bool := if typ = 1 ∨ typ = 5 then oneB s else if typ = 4 then ascB s && s.all okI else s.all okI
def typB (typ : Int) : Bool := decide (1 ≤ typ) && decide (typ ≤ 5)
def chkS (typ : Int) (s : List Int) : Int := if typB typ = true then (if 50 < s.length then 2 else if validS typ s = true then 0 else 3) else 1
/-! Steps -/
/-- what a step answers: the state behind, the answer, what is wrong -/
abbrev Res := List Int × Int × Int
def stepP (typ : Int) (s : List Int) (kind a : Int) : Res :=
  if typ = 1 then (if kind = 1 then ([a], 0, 0) else (s, s.getD 0 0, 0))
  else if typ = 2 then (if kind = 3 then (if s.length = 50 then ([], 0, 2) else (s ++ [a], 0, 0)) else if s.length = 0 then (s, -1, 0) else (s.drop 1, s.getD 0 0, 0))
  else if typ = 3 then (if kind = 5 then (if s.length = 50 then ([], 0, 2) else (s ++ [a], 0, 0)) else if s.length = 0 then (s, -1, 0) else (s.take (s.length - 1), s.getD (s.length - 1) 0, 0))
  else if typ = 4 then (if kind = 7 ∧ s.contains a = false ∧ s.length = 50 then ([], 0, 2) else ((setP s kind a).1, (setP s kind a).2, 0))
  else (if s.getD 0 0 = 1000 then ([], 0, 2) else ([s.getD 0 0 + 1], s.getD 0 0, 0))
def stepR (s : List Int) (kind a : Int) : Res :=
  if (kind = 3 ∨ kind = 5 ∨ kind = 7 ∧ s.contains a = false) ∧ s.length = 50 ∨ kind = 10 ∧ s.getD 0 0 = 1000 then ([], 0, 2)
  else if kind = 1 then ([a], 0, 0)
  else if kind = 2 then (s, s.getD 0 0, 0)
  else if kind = 3 ∨ kind = 5 then (s ++ [a], 0, 0)
  else if kind = 4 ∨ kind = 6 then (if s.length = 0 then (s, -1, 0) else if kind = 4 then (s.drop 1, s.getD 0 0, 0) else (s.take (s.length - 1), s.getD (s.length - 1) 0, 0))
  else if kind = 10 then ([s.getD 0 0 + 1], s.getD 0 0, 0)
  else ((setR s kind a).1, (setR s kind a).2, 0)
/-- a type and a kind that go together -/
def fitB (typ kind : Int) : Prop := typ = 1 ∧ (kind = 1 ∨ kind = 2) ∨ typ = 2 ∧ (kind = 3 ∨ kind = 4) ∨ typ = 3 ∧ (kind = 5 ∨ kind = 6) ∨ typ = 4 ∧ (kind = 7 ∨ kind = 8 ∨ kind = 9) ∨ typ = 5 ∧ kind = 10
theorem step_eq {typ : Int} {s : List Int} {kind a : Int} (hv : validS typ s = true) (hf : fitB typ kind) : stepR s kind a = stepP typ s kind a := by
  rcases hf with ⟨rfl, rfl | rfl⟩ | ⟨rfl, rfl | rfl⟩ | ⟨rfl, rfl | rfl⟩ | ⟨rfl, hk⟩ | ⟨rfl, rfl⟩
  · simp [stepR, stepP]
  · simp [stepR, stepP]
  · simp [stepR, stepP]
  · simp [stepR, stepP]
  · simp [stepR, stepP]
  · simp [stepR, stepP]
  · have hs : Asc s := by
      have : ascB s = true := by
        simp only [validS] at hv
        rw [if_neg (by decide), if_pos trivial, Bool.and_eq_true] at hv
        exact hv.1
      exact asc_of this
    have he := setP_eq hs kind a hk
    rcases hk with rfl | rfl | rfl
    · simp [stepR, stepP, he]
    · simp [stepR, stepP, he]
    · simp [stepR, stepP, he]
  · simp [stepR, stepP]
theorem all_okI_of {s t : List Int} (h : s.all okI = true) (hs : ∀ x ∈ t, x ∈ s) : t.all okI = true := by
  rw [List.all_eq_true] at h ⊢
  exact fun x hx => h x (hs x hx)
theorem ascB_of {s : List Int} (h : Asc s) : ascB s = true := by
  rw [ascB_iff]
  intro j hj
  have h1 : s.getD j 0 = s[j] := by simp [List.getD_eq_getElem?_getD, show j < s.length by omega]
  have h2 : s.getD (j + 1) 0 = s[j + 1] := by simp [List.getD_eq_getElem?_getD, hj]
  rw [h1, h2]
  exact (List.pairwise_iff_getElem.1 h) j (j + 1) (by omega) hj (by omega)
theorem setP_valid {s : List Int} {kind a : Int} (hs : Asc s) (ho : s.all okI = true) (ha : okI a = true) : Asc (setP s kind a).1 ∧ (setP s kind a).1.all okI = true := by
  obtain ⟨p1, p2, p3⟩ := pos_split hs a
  unfold setP
  generalize posI s a = i at *
  have hsp : s = s.take i ++ s.drop i := (List.take_append_drop i s).symm
  split
  · split
    · exact ⟨hs, ho⟩
    · split
      · refine ⟨?_, all_okI_of ho fun x hx => ?_⟩
        · have : (s.take i ++ s.drop (i + 1)).Sublist s := by
            conv => rhs; rw [hsp]
            refine List.Sublist.append (List.Sublist.refl _) ?_
            rw [← List.drop_drop]
            exact List.drop_sublist 1 _
          exact hs.sublist this
        · rcases List.mem_append.1 hx with h | h
          · exact List.mem_of_mem_take h
          · exact List.mem_of_mem_drop h
      · exact ⟨hs, ho⟩
  · rename_i hc
    split
    · refine ⟨?_, ?_⟩
      · unfold Asc at hs ⊢
        rw [hsp, List.pairwise_append] at hs
        obtain ⟨q1, q2, q3⟩ := hs
        rw [List.pairwise_append, List.pairwise_cons]
        refine ⟨q1, ⟨fun y hy => ?_, q2⟩, fun x hx y hy => ?_⟩
        · have h1 := p2 y hy
          have h2 : a ≠ y := fun e => by
            subst e
            exact hc (by simpa using List.mem_of_mem_drop hy)
          omega
        · rcases List.mem_cons.1 hy with rfl | hy
          · exact p1 x hx
          · exact q3 x hx y hy
      · rw [List.all_append, List.all_cons, ha, Bool.true_and, Bool.and_eq_true]
        exact ⟨all_okI_of ho fun x hx => List.mem_of_mem_take hx, all_okI_of ho fun x hx => List.mem_of_mem_drop hx⟩
    · exact ⟨hs, ho⟩
theorem setP_len {s : List Int} {kind a : Int} (h50 : s.length ≤ 50) (hn : ¬ (kind = 7 ∧ s.contains a = false ∧ s.length = 50)) : (setP s kind a).1.length ≤ 50 := by
  unfold setP
  split
  · split
    · exact h50
    · split
      · simp only [List.length_append, List.length_take, List.length_drop]; omega
      · exact h50
  · rename_i hc
    split
    · rename_i hk
      have hc' : s.contains a = false := by simpa using hc
      have : s.length ≠ 50 := fun e => hn ⟨hk, hc', e⟩
      simp only [List.length_append, List.length_take, List.length_cons, List.length_drop]; omega
    · exact h50
theorem chkS_ok {typ : Int} {s : List Int} (h : chkS typ s = 0) : typB typ = true ∧ s.length ≤ 50 ∧ validS typ s = true := by
  unfold chkS at h
  split at h
  · rename_i h1
    split at h
    · cases h
    · split at h
      · exact ⟨h1, by omega, by assumption⟩
      · cases h
  · cases h
theorem chkS_mk {typ : Int} {s : List Int} (h1 : typB typ = true) (h2 : s.length ≤ 50) (h3 : validS typ s = true) : chkS typ s = 0 := by
  unfold chkS
  rw [if_pos h1, if_neg (by omega), if_pos h3]
theorem okI_of {kind a : Int} (h : argB kind a = true) (hk : ¬ (kind = 2 ∨ kind = 4 ∨ kind = 6 ∨ kind = 10)) : okI a = true := by
  unfold argB at h
  rw [if_neg hk] at h
  simp only [decide_eq_true_eq] at h
  simp [okI, h.1, h.2]
theorem step_valid {typ : Int} {s : List Int} {kind a : Int} (h : chkS typ s = 0) (hf : fitB typ kind) (ha : argB kind a = true) (he : (stepP typ s kind a).2.2 = 0) : chkS typ (stepP typ s kind a).1 = 0 := by
  obtain ⟨h1, h2, h3⟩ := chkS_ok h
  rcases hf with ⟨rfl, rfl | rfl⟩ | ⟨rfl, rfl | rfl⟩ | ⟨rfl, rfl | rfl⟩ | ⟨rfl, hk⟩ | ⟨rfl, rfl⟩
  · have := okI_of ha (by decide)
    simp only [okI, Bool.and_eq_true, decide_eq_true_eq] at this
    refine chkS_mk h1 (by simp [stepP]) ?_
    simp [stepP, validS, oneB]; omega
  · simpa [stepP] using h
  · have := okI_of ha (by decide)
    simp only [stepP] at he ⊢
    by_cases h50 : s.length = 50
    · simp [h50] at he
    · simp only [h50]
      refine chkS_mk h1 (by simp; omega) ?_
      simp only [validS] at h3 ⊢
      simpa [this] using h3
  · simp only [stepP] at he ⊢
    by_cases h0 : s.length = 0
    · simpa [h0] using h
    · refine chkS_mk h1 (by simp [h0]; omega) ?_
      simp only [validS, h0] at h3 ⊢
      have h3' : s.all okI = true := by simpa using h3
      simpa using all_okI_of h3' (t := s.drop 1) fun x hx => List.mem_of_mem_drop hx
  · have := okI_of ha (by decide)
    simp only [stepP] at he ⊢
    by_cases h50 : s.length = 50
    · simp [h50] at he
    · simp only [h50]
      refine chkS_mk h1 (by simp; omega) ?_
      simp only [validS] at h3 ⊢
      simpa [this] using h3
  · simp only [stepP] at he ⊢
    by_cases h0 : s.length = 0
    · simpa [h0] using h
    · refine chkS_mk h1 (by simp [h0]; omega) ?_
      simp only [validS, h0] at h3 ⊢
      have h3' : s.all okI = true := by simpa using h3
      simpa using all_okI_of h3' (t := s.take (s.length - 1)) fun x hx => List.mem_of_mem_take hx
  · have ho := okI_of ha (by omega)
    have h3' : ascB s = true ∧ s.all okI = true := by simpa [validS] using h3
    obtain ⟨v1, v2⟩ := setP_valid (kind := kind) (asc_of h3'.1) h3'.2 ho
    have e : (4 : Int) = 4 := rfl
    by_cases hfull : kind = 7 ∧ s.contains a = false ∧ s.length = 50
    · unfold stepP at he
      rw [if_neg (by decide), if_neg (by decide), if_neg (by decide), if_pos rfl, if_pos hfull] at he; cases he
    · have hs : stepP 4 s kind a = ((setP s kind a).1, (setP s kind a).2, 0) := by
        unfold stepP
        rw [if_neg (by decide), if_neg (by decide), if_neg (by decide), if_pos rfl, if_neg hfull]
      rw [hs]
      refine chkS_mk h1 (setP_len h2 hfull) ?_
      simp only [validS]
      rw [if_neg (by decide), if_pos trivial, Bool.and_eq_true]
      exact ⟨ascB_of v1, v2⟩
  · simp only [stepP] at he ⊢
    have h3' : oneB s = true := by simpa [validS] using h3
    simp only [oneB, Bool.and_eq_true, decide_eq_true_eq] at h3'
    by_cases hm : s.getD 0 0 = 1000
    · rw [if_neg (by decide), if_neg (by decide), if_neg (by decide), if_neg (by decide), if_pos hm] at he; cases he
    · rw [if_neg (by decide), if_neg (by decide), if_neg (by decide), if_neg (by decide), if_neg hm]
      refine chkS_mk h1 (by simp) ?_
      simp only [validS, oneB, List.getD_cons_zero, List.length_singleton]
      rw [if_pos (by decide), Bool.and_eq_true, Bool.and_eq_true, decide_eq_true_eq, decide_eq_true_eq, decide_eq_true_eq]
      exact ⟨trivial, by omega, by omega⟩
theorem step_bad {typ : Int} {s : List Int} {kind a : Int} (h : (stepP typ s kind a).2.2 ≠ 0) : stepP typ s kind a = ([], 0, 2) := by
  unfold stepP at h ⊢
  repeat' split at h
  all_goals first | (exact absurd rfl h) | skip
  all_goals simp_all
/-- how many of what is done may be -/
def playF (typ : Int) (s : List Int) : List (Int × Int × Int) → Nat
  | [] => 0
  | (k, a, r) :: l => match stepP typ s k a with
    | (next, n, e) => if e = 0 ∧ n = r then playF typ next l + 1 else 0
end Go.Proofs.Ytkhdihieepfcpaa
