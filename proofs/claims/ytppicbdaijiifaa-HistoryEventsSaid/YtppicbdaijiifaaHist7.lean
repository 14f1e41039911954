/- Histories: the document's reading of events. -/
import Derived.Test.YtppicbdaijiifaaHist6
set_option linter.unusedSimpArgs false
set_option linter.unusedVariables false
set_option linter.unusedSectionVars false
set_option linter.unnecessarySimpa false
namespace Go.Proofs.Ytppicbdaijiifaa
open Go.RowKit

/-- the last of the first q calls that is somebody's and open (-1: none) -/
def openTo (cs : List Cl) (who : Int) : Nat → Int
  | 0 => -1
  | q + 1 => if (cs.getD q default).who = who ∧ (cs.getD q default).to = -1 then (q : Int) else openTo cs who q
theorem openTo_lt (cs : List Cl) (who : Int) : ∀ q, -1 ≤ openTo cs who q ∧ openTo cs who q < q
  | 0 => by simp [openTo]
  | q + 1 => by
    have := openTo_lt cs who q
    rw [openTo]
    split <;> omega
/-- one step of the document's reading -/
def evR (ts : List Int) (cs : List Cl) (i : Int) (x : Ev) : Int × List Cl :=
  if formBad ts x = true then (3, cs)
  else if x.kind = 0 then
    if openTo cs x.who cs.length < 0 then (4, cs)
    else if (cs.getD (openTo cs x.who cs.length).toNat default).thing = x.thing ∧ ansB (cs.getD (openTo cs x.who cs.length).toNat default).kind x.value = true then
      (0, cs.set (openTo cs x.who cs.length).toNat { cs.getD (openTo cs x.who cs.length).toNat default with res := x.value, to := i })
    else (3, cs)
  else if ((kindsL (ts.getD x.thing.toNat 0)).contains x.kind && argB x.kind x.value) = false then (3, cs)
  else if 0 ≤ openTo cs x.who cs.length then (5, cs)
  else (0, cs ++ [⟨x.who, x.thing, x.kind, x.value, 0, i, -1⟩])
def stR (ts : List Int) (l : List Ev) : Nat → List Cl
  | 0 => []
  | k + 1 => (evR ts (stR ts l k) k (l.getD k default)).2
def erR (ts : List Int) (l : List Ev) (k : Nat) : Int := (evR ts (stR ts l k) k (l.getD k default)).1

/-- what is so of the reader's state: those that are open are each one call's, the last of theirs -/
def StOk (cs : List Cl) (op : Nat → Int) : Prop :=
  (∀ k : Nat, k < 8 → openTo cs (k : Int) cs.length = op k - 1) ∧ (∀ c, c ∈ cs → 1 ≤ c.kind ∧ c.kind ≤ 10) ∧
  ∀ i j, (hi : i < cs.length) → (hj : j < cs.length) → cs[i].who = cs[j].who → cs[i].to = -1 → cs[j].to = -1 → i = j
theorem openTo_congr {cs ds : List Cl} {who : Int} : ∀ q, (∀ j, j < q → ((cs.getD j default).who = who ∧ (cs.getD j default).to = -1 ↔ (ds.getD j default).who = who ∧ (ds.getD j default).to = -1)) → openTo cs who q = openTo ds who q
  | 0, _ => rfl
  | q + 1, h => by
    rw [openTo, openTo, openTo_congr q fun j hj => h j (by omega)]
    have := h q (by omega)
    by_cases e : (cs.getD q default).who = who ∧ (cs.getD q default).to = -1
    · rw [if_pos e, if_pos (this.1 e)]
    · rw [if_neg e, if_neg fun e' => e (this.2 e')]
theorem openTo_none {cs : List Cl} {who : Int} : ∀ q, (∀ j, j < q → ¬ ((cs.getD j default).who = who ∧ (cs.getD j default).to = -1)) → openTo cs who q = -1
  | 0, _ => rfl
  | q + 1, h => by rw [openTo, if_neg (h q (by omega)), openTo_none q fun j hj => h j (by omega)]
theorem openTo_at {cs : List Cl} {who : Int} : ∀ q, openTo cs who q ≠ -1 → ∃ m : Nat, openTo cs who q = m ∧ m < q ∧ (cs.getD m default).who = who ∧ (cs.getD m default).to = -1
  | 0, h => absurd rfl h
  | q + 1, h => by
    rw [openTo] at h ⊢
    by_cases e : (cs.getD q default).who = who ∧ (cs.getD q default).to = -1
    · rw [if_pos e]
      exact ⟨q, rfl, by omega, e⟩
    · rw [if_neg e] at h ⊢
      obtain ⟨m, h1, h2, h3⟩ := openTo_at q h
      exact ⟨m, h1, by omega, h3⟩
theorem openTo_some {cs : List Cl} {who : Int} {j : Nat} : ∀ q, j < q → (cs.getD j default).who = who ∧ (cs.getD j default).to = -1 → openTo cs who q ≠ -1
  | 0, h, _ => by omega
  | q + 1, h, hj => by
    rw [openTo]
    by_cases e : (cs.getD q default).who = who ∧ (cs.getD q default).to = -1
    · rw [if_pos e]; omega
    · rw [if_neg e]
      have : j ≠ q := fun e' => e (e' ▸ hj)
      exact openTo_some q (by omega) hj
theorem stOk_push {cs : List Cl} {op : Nat → Int} {k : Nat} {c : Cl} (hs : StOk cs op) (hk : op k = 0) (hk8 : k < 8) (hw : c.who = k) (ht : c.to = -1) (h1 : 1 ≤ c.kind ∧ c.kind ≤ 10) : StOk (cs ++ [c]) (upz op k (cs.length + 1)) := by
  obtain ⟨a1, a2, a3⟩ := hs
  have hl : (cs ++ [c]).getD cs.length default = c := by simp
  have ho : ∀ j, j < cs.length → (cs ++ [c]).getD j default = cs.getD j default := fun j hj => by simp [hj, List.getElem?_append_left hj]
  have hno : ∀ j (hj : j < cs.length), cs[j].who = k → cs[j].to = -1 → False := fun j hj e1 e2 =>
    openTo_some (cs := cs) (who := k) cs.length hj (by simp [hj, e1, e2]) (by rw [a1 k hk8, hk]; rfl)
  refine ⟨fun k' hk' => ?_, fun x hx => ?_, fun i j hi hj e1 e2 e3 => ?_⟩
  · rw [List.length_append, List.length_singleton, openTo, hl, hw, ht]
    by_cases e : k' = k
    · subst e
      rw [if_pos ⟨rfl, rfl⟩]
      simp [upz]
    · rw [if_neg (by intro h; exact e (by have := h.1; omega)), openTo_congr (ds := cs) _ (fun j hj => by rw [ho j hj]), a1 k' hk']
      simp [upz, e]
  · rcases List.mem_append.1 hx with h | h
    · exact a2 x h
    · rw [List.mem_singleton.1 h]; exact h1
  · simp only [List.length_append, List.length_singleton] at hi hj
    rcases Nat.lt_or_ge i cs.length with h | h <;> rcases Nat.lt_or_ge j cs.length with h' | h'
    · simp only [List.getElem_append_left h, List.getElem_append_left h'] at e1 e2 e3
      exact a3 i j h h' e1 e2 e3
    · obtain rfl : j = cs.length := by omega
      simp only [List.getElem_append_left h, List.getElem_concat_length] at e1 e2
      exact absurd (hno i h (by rw [e1, hw]) e2) id
    · obtain rfl : i = cs.length := by omega
      simp only [List.getElem_append_left h', List.getElem_concat_length] at e1 e3
      exact absurd (hno j h' (by rw [← e1, hw]) e3) id
    · omega
theorem stOk_set {cs : List Cl} {op : Nat → Int} {k m : Nat} {v i : Int} (hs : StOk cs op) (hk8 : k < 8) (hm : m < cs.length) (hop : op k = (m : Int) + 1) (hi : 0 ≤ i) : StOk (cs.set m { cs[m] with res := v, to := i }) (upz op k 0) := by
  obtain ⟨a1, a2, a3⟩ := hs
  obtain ⟨m', h1, h2, h3, h4⟩ := openTo_at (cs := cs) (who := k) cs.length (by rw [a1 k hk8, hop]; omega)
  obtain rfl : m' = m := by have := a1 k hk8; rw [h1, hop] at this; omega
  have hd : cs.getD m' default = cs[m'] := by simp [hm]
  rw [hd] at h3 h4
  have ho : ∀ j, j ≠ m' → (cs.set m' { cs[m'] with res := v, to := i }).getD j default = cs.getD j default := fun j hj => by
    simp only [List.getD_eq_getElem?_getD, List.getElem?_set]
    rw [if_neg (fun e => hj e.symm)]
  have hn : (cs.set m' { cs[m'] with res := v, to := i }).getD m' default = { cs[m'] with res := v, to := i } := by simp [hm]
  have hto : ¬ i = -1 := by omega
  refine ⟨fun k' hk' => ?_, fun x hx => ?_, fun p q hp hq e1 e2 e3 => ?_⟩
  · rw [List.length_set]
    by_cases e : k' = k
    · subst e
      rw [openTo_none]
      · simp [upz]
      · intro j hj hh
        by_cases e : j = m'
        · subst e; rw [hn] at hh; exact hto hh.2
        · rw [ho j e] at hh
          have hjd : cs.getD j default = cs[j] := by simp [hj]
          rw [hjd] at hh
          exact e (a3 j m' hj hm (by rw [hh.1, h3]) hh.2 h4)
    · rw [openTo_congr (ds := cs) _ (fun j hj => ?_), a1 k' hk']
      · simp [upz, e]
      · by_cases e' : j = m'
        · subst e'
          rw [hn, hd]
          simp only [h3]
          constructor
          · intro h; exact absurd h.1 (by omega)
          · intro h; exact absurd h.1 (by omega)
        · rw [ho j e']
  · rcases List.mem_or_eq_of_mem_set hx with h | h
    · exact a2 x h
    · subst h; exact a2 cs[m'] (List.getElem_mem _)
  · simp only [List.length_set] at hp hq
    simp only [List.getElem_set] at e1 e2 e3
    by_cases ep : m' = p
    · rw [if_pos ep] at e2; exact absurd e2 hto
    · by_cases eq : m' = q
      · rw [if_pos eq] at e3; exact absurd e3 hto
      · rw [if_neg ep, if_neg eq] at e1
        rw [if_neg ep] at e2
        rw [if_neg eq] at e3
        exact a3 p q hp hq e1 e2 e3

theorem step_same {ts : List Int} {cs : List Cl} {op : Nat → Int} {i : Int} {x : Ev} (hi : 0 ≤ i) (hs : StOk cs op) (ho : OpOk cs op) :
    (evP ts cs op i x).1 = (evR ts cs i x).1 ∧ (evP ts cs op i x).2.1 = (evR ts cs i x).2 ∧ StOk (evP ts cs op i x).2.1 (evP ts cs op i x).2.2 := by
  by_cases hf : formBad ts x = true
  · simp [evP, evR, hf, hs]
  · have hff := hf
    simp only [formBad, Bool.not_eq_true', Bool.not_eq_false', decide_eq_true_eq, decide_eq_false_iff_not, Bool.and_eq_true, Bool.or_eq_true, Bool.or_eq_false_iff, Bool.and_eq_false_iff, not_or, Int.not_lt, Int.not_le] at hff
    obtain ⟨⟨⟨q1, q2⟩, q3⟩, q4⟩ := hff
    obtain ⟨who, thing, kind, value⟩ := x
    obtain ⟨k, rfl⟩ := Int.eq_ofNat_of_zero_le q1
    have hk : k < 8 := by simp at q2; omega
    have hop := hs.1 k hk
    have hok := ho k hk
    by_cases hkind : kind = 0
    · subst hkind
      by_cases h0 : op k = 0
      · have : openTo cs k cs.length < 0 := by omega
        simp [evP, evR, hf, h0, this, hs]
      · obtain ⟨m, hm⟩ : ∃ m : Nat, op k = (m : Int) + 1 := ⟨(op k - 1).toNat, by omega⟩
        have hmc : m < cs.length := by omega
        have hd : cs.getD m default = cs[m] := by simp [hmc]
        have hot : openTo cs k cs.length = m := by omega
        have hkd := hs.2.1 cs[m] (List.getElem_mem _)
        have hra := resB_ansB (n := value) hkd.1 hkd.2
        by_cases hth : cs[m].thing = thing ∧ resB cs[m].kind value = true
        · have e1 : evP ts cs op i ⟨k, thing, 0, value⟩ = (0, cs.set m { cs[m] with res := value, to := i }, upz op k 0) := by
            simp [evP, hf, hm, hmc, hth, show ¬ (m : Int) + 1 = 0 by omega]
          have e2 : evR ts cs i ⟨k, thing, 0, value⟩ = (0, cs.set m { cs[m] with res := value, to := i }) := by
            simp [evR, hf, hot, hmc, ← hra, hth, show ¬ (m : Int) < 0 by omega]
          rw [e1, e2]
          exact ⟨rfl, rfl, stOk_set hs hk hmc hm hi⟩
        · have e1 : evP ts cs op i ⟨k, thing, 0, value⟩ = (3, cs, op) := by
            simp [evP, hf, hm, hmc, hth, show ¬ (m : Int) + 1 = 0 by omega]
          have e2 : evR ts cs i ⟨k, thing, 0, value⟩ = (3, cs) := by
            simp [evR, hf, hot, hmc, ← hra, hth, show ¬ (m : Int) < 0 by omega]
          rw [e1, e2]
          exact ⟨rfl, rfl, hs⟩
    · have hkl := typeF_kinds (ts.getD thing.toNat 0) kind
      by_cases hfa : (fitsB (ts.getD thing.toNat 0) kind && argB kind value) = true
      · have hfk : fitsB (ts.getD thing.toNat 0) kind = true := (Bool.and_eq_true _ _ ▸ hfa).1
        by_cases h0 : 0 < op k
        · have : 0 ≤ openTo cs k cs.length := by omega
          have e1 : evP ts cs op i ⟨k, thing, kind, value⟩ = (5, cs, op) := by
            simp only [evP, if_neg hf, if_pos hkind, hfa, Int.toNat_natCast, if_pos h0]; simp
          have e2 : evR ts cs i ⟨k, thing, kind, value⟩ = (5, cs) := by
            simp only [evR, if_neg hf, if_neg hkind, ← hkl, hfa, if_pos this]; simp
          rw [e1, e2]
          exact ⟨rfl, rfl, hs⟩
        · have : ¬ 0 ≤ openTo cs k cs.length := by omega
          have e1 : evP ts cs op i ⟨k, thing, kind, value⟩ = (0, cs ++ [⟨k, thing, kind, value, 0, i, -1⟩], upz op k (cs.length + 1)) := by
            simp only [evP, if_neg hf, if_pos hkind, hfa, Int.toNat_natCast, if_neg h0]; simp
          have e2 : evR ts cs i ⟨k, thing, kind, value⟩ = (0, cs ++ [⟨k, thing, kind, value, 0, i, -1⟩]) := by
            simp only [evR, if_neg hf, if_neg hkind, ← hkl, hfa, if_neg this]; simp
          rw [e1, e2]
          exact ⟨rfl, rfl, stOk_push hs (by omega) hk rfl rfl (typeF_pos hfk)⟩
      · have hfb : (fitsB (ts.getD thing.toNat 0) kind && argB kind value) = false := by simpa using hfa
        have e1 : evP ts cs op i ⟨k, thing, kind, value⟩ = (3, cs, op) := by
          simp only [evP, if_neg hf, if_pos hkind, hfb]; simp
        have e2 : evR ts cs i ⟨k, thing, kind, value⟩ = (3, cs) := by
          simp only [evR, if_neg hf, if_neg hkind, ← hkl, hfb]; simp
        rw [e1, e2]
        exact ⟨rfl, rfl, hs⟩

theorem run_same (ts : List Int) (l : List Ev) : ∀ k, (stP ts l k).1 = stR ts l k ∧ StOk (stP ts l k).1 (stP ts l k).2
  | 0 => ⟨rfl, fun k _ => by simp [stP, openTo], fun c hc => by simp [stP] at hc, fun i j hi _ _ _ _ => by simp [stP] at hi⟩
  | k + 1 => by
    obtain ⟨h1, h2⟩ := run_same ts l k
    have := step_same (ts := ts) (x := l.getD k default) (show (0 : Int) ≤ k by omega) h2 (stP_ok ts l k)
    rw [h1] at this
    simp only [stP, stR]
    rw [h1]
    exact ⟨this.2.1, this.2.2⟩
theorem er_same (ts : List Int) (l : List Ev) (k : Nat) : erP ts l k = erR ts l k := by
  obtain ⟨h1, h2⟩ := run_same ts l k
  have := step_same (ts := ts) (x := l.getD k default) (show (0 : Int) ≤ k by omega) h2 (stP_ok ts l k)
  rw [h1] at this
  unfold erP erR
  rw [h1]
  exact this.1
def failR (ts : List Int) (l : List Ev) : Nat := ((List.range l.length).find? fun k => decide (erR ts l k ≠ 0)).getD l.length
/-- what the document's reading answers -/
def callsR (ts : List Int) (l : List Ev) : List Cl × Int × Int :=
  if typesE ts ≠ 0 then ([], 0, typesE ts)
  else if 200 < l.length then ([], 0, 2)
  else if failR ts l < l.length then ([], failR ts l, erR ts l (failR ts l))
  else (stR ts l l.length, 0, 0)
theorem calls_same (ts : List Int) (l : List Ev) : callsP ts l = callsR ts l := by
  have hf : failP ts l = failR ts l := by
    unfold failP failR
    simp only [er_same]
  unfold callsP callsR
  rw [hf, er_same, (run_same ts l l.length).1]
theorem failR_at {ts : List Int} {l : List Ev} {k : Nat} (hk : k < l.length) (h : ∀ j, j < k → erR ts l j = 0) (he : erR ts l k ≠ 0) : failR ts l = k := by
  have := failP_at (ts := ts) (l := l) hk (fun j hj => by rw [er_same]; exact h j hj) (by rw [er_same]; exact he)
  unfold failP at this
  unfold failR
  simpa only [er_same] using this
theorem failR_none {ts : List Int} {l : List Ev} (h : ∀ j, j < l.length → erR ts l j = 0) : failR ts l = l.length := by
  have := failP_none (ts := ts) (l := l) (fun j hj => by rw [er_same]; exact h j hj)
  unfold failP at this
  unfold failR
  simpa only [er_same] using this
end Go.Proofs.Ytppicbdaijiifaa
