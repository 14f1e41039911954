/- Lemmas for the walks (SubA, Bg1, P, Bg2). No condition. -/
import Derived.Test.YtaonijdhmgcbjaaG07
import Derived.Test.YtaonijdhmgcbjaaG05
set_option linter.unusedSimpArgs false
set_option linter.unusedVariables false
set_option linter.unusedSectionVars false
set_option linter.unnecessarySimpa false
namespace Go.Proofs.Ytaonijdhmgcbjaa

/-- the events at the places that are kept; how many these are -/
def keepL (l : List Ev) (p : Nat → Bool) : Nat → List Ev
  | 0 => []
  | k + 1 => if p k = true then keepL l p k ++ [l.getD k default] else keepL l p k
def rankP (p : Nat → Bool) : Nat → Nat
  | 0 => 0
  | k + 1 => if p k = true then rankP p k + 1 else rankP p k
theorem keepL_len (l : List Ev) (p : Nat → Bool) : ∀ k, (keepL l p k).length = rankP p k
  | 0 => rfl
  | k + 1 => by
    unfold keepL rankP
    split
    · rw [List.length_append, keepL_len l p k]; rfl
    · exact keepL_len l p k
theorem rankP_le (p : Nat → Bool) : ∀ k, rankP p k ≤ k
  | 0 => Nat.le_refl _
  | k + 1 => by
    have := rankP_le p k
    unfold rankP
    split <;> omega
theorem rankP_next (p : Nat → Bool) (n : Nat) : rankP p n ≤ rankP p (n + 1) := by rw [rankP]; split <;> omega
theorem rankP_mono (p : Nat → Bool) {a b : Nat} (h : a ≤ b) : rankP p a ≤ rankP p b := by
  induction h with
  | refl => exact Nat.le_refl _
  | step _ ih => exact Nat.le_trans ih (rankP_next p _)
theorem rankP_lt {p : Nat → Bool} {a b : Nat} (ha : p a = true) : rankP p a < rankP p b ↔ a < b := by
  constructor
  · intro h
    rcases Nat.lt_or_ge a b with h1 | h1
    · exact h1
    · have := rankP_mono p h1; omega
  · intro h
    have h1 : rankP p (a + 1) = rankP p a + 1 := by rw [rankP, if_pos ha]
    have := rankP_mono p (show a + 1 ≤ b from h)
    omega
def subTo (p : Nat → Bool) (z : Int) : Int := if z = -1 then -1 else (rankP p z.toNat : Int)
theorem subTo_open {p : Nat → Bool} {z : Int} : subTo p z = -1 ↔ z = -1 := by
  unfold subTo
  split
  · simp [*]
  · rename_i h
    exact ⟨fun h1 => by omega, fun h1 => absurd h1 h⟩
def subC (p : Nat → Bool) (c : Cl) : Cl := { c with from_ := (rankP p c.from_.toNat : Int), to := subTo p c.to }
def subL (p : Nat → Bool) (P : Cl → Bool) (cs : List Cl) : List Cl := (cs.filter P).map (subC p)
theorem stR_more {ts : List Int} {l r : List Ev} : ∀ k, k ≤ l.length → stR ts (l ++ r) k = stR ts l k
  | 0, _ => rfl
  | k + 1, h => by
    have e : (l ++ r).getD k default = l.getD k default := by
      rw [List.getD_eq_getElem?_getD, List.getElem?_append_left (by omega), List.getD_eq_getElem?_getD]
    rw [stR, stR, stR_more k (by omega), e]
theorem erR_more {ts : List Int} {l r : List Ev} {k : Nat} (h : k < l.length) : erR ts (l ++ r) k = erR ts l k := by
  have e : (l ++ r).getD k default = l.getD k default := by
    rw [List.getD_eq_getElem?_getD, List.getElem?_append_left h, List.getD_eq_getElem?_getD]
  rw [erR, erR, stR_more k (by omega), e]
theorem evR_yes {ts : List Int} {cs : List Cl} {i : Int} {x : Ev} (h : (evR ts cs i x).1 = 0) : formBad ts x = false ∧
    ((x.kind = 0 ∧ ∃ m : Nat, openTo cs x.who cs.length = m ∧ m < cs.length ∧ (cs.getD m default).who = x.who ∧ (cs.getD m default).to = -1 ∧ (cs.getD m default).thing = x.thing ∧ ansB (cs.getD m default).kind x.value = true ∧
        (evR ts cs i x).2 = cs.set m { cs.getD m default with res := x.value, to := i }) ∨
      (x.kind ≠ 0 ∧ ((kindsL (ts.getD x.thing.toNat 0)).contains x.kind && argB x.kind x.value) = true ∧ openTo cs x.who cs.length = -1 ∧ (evR ts cs i x).2 = cs ++ [⟨x.who, x.thing, x.kind, x.value, 0, i, -1⟩])) := by
  unfold evR at h ⊢
  by_cases hf : formBad ts x = true
  · rw [if_pos hf] at h; cases h
  · rw [if_neg hf] at h ⊢
    refine ⟨Bool.eq_false_iff.2 hf, ?_⟩
    by_cases hk : x.kind = 0
    · rw [if_pos hk] at h ⊢
      split at h
      · cases h
      · rename_i hz
        rw [if_neg hz]
        split at h
        · rename_i hc
          rw [if_pos hc]
          obtain ⟨p, hp, hpl, hpw, hpt⟩ := openTo_at (cs := cs) (who := x.who) cs.length (by omega)
          rw [hp] at hc ⊢
          exact .inl ⟨hk, p, rfl, hpl, hpw, hpt, hc.1, hc.2, rfl⟩
        · cases h
    · rw [if_neg hk] at h ⊢
      split at h
      · cases h
      · rename_i hb
        rw [if_neg hb]
        split at h
        · cases h
        · rename_i ho
          rw [if_neg ho]
          have := openTo_lt cs x.who cs.length
          exact .inr ⟨hk, by simpa using hb, by omega, rfl⟩
theorem filt_no {P : Cl → Bool} {c : Cl} (hc : P c = false) : ∀ {S : List Cl} {m : Nat}, (h : m < S.length) → P S[m] = false → (S.set m c).filter P = S.filter P
  | [], _, h, _ => by simp at h
  | x :: S, 0, _, hx => by
    have hx' : P x = false := hx
    simp [hx', hc]
  | x :: S, m + 1, h, hx => by
    have ih := filt_no hc (S := S) (m := m) (by simpa using h) (by simpa using hx)
    rw [List.set_cons_succ, List.filter_cons, List.filter_cons, ih]
theorem filt_yes {P : Cl → Bool} {c : Cl} (hc : P c = true) : ∀ {S : List Cl} {m : Nat}, (h : m < S.length) → P S[m] = true →
    (S.set m c).filter P = (S.filter P).set ((S.take m).filter P).length c ∧ (S.filter P)[((S.take m).filter P).length]? = some S[m]
  | [], _, h, _ => by simp at h
  | x :: S, 0, _, hx => by
    have hx' : P x = true := hx
    simp [hx', hc]
  | x :: S, m + 1, h, hx => by
    have ih := filt_yes hc (S := S) (m := m) (by simpa using h) (by simpa using hx)
    rw [List.set_cons_succ, List.filter_cons, List.filter_cons, List.take_succ_cons, List.filter_cons]
    by_cases hP : P x = true
    · simp only [if_pos hP]
      rw [ih.1]
      simpa using ih.2
    · simp only [if_neg hP]
      rw [ih.1]
      simpa using ih.2
theorem st_one {ts : List Int} {l : List Ev} {k i j : Nat} (hi : i < (stR ts l k).length) (hj : j < (stR ts l k).length) (hw : (stR ts l k)[i].who = (stR ts l k)[j].who) (h1 : (stR ts l k)[i].to = -1) (h2 : (stR ts l k)[j].to = -1) : i = j := by
  obtain ⟨e, h⟩ := run_same ts l k
  rw [e] at h
  exact h.2.2 i j hi hj hw h1 h2
section
variable {ts : List Int} {l : List Ev} {p : Nat → Bool} {P : Cl → Bool}
/-- which places are kept: those of the calls that P names -/
structure Kept (ts : List Int) (l : List Ev) (p : Nat → Bool) (P : Cl → Bool) : Prop where
  turn : ∀ (c : Cl) (r t : Int), P { c with res := r, to := t } = P c
  call : ∀ k (h : k < l.length), l[k].kind ≠ 0 → p k = P ⟨l[k].who, l[k].thing, l[k].kind, l[k].value, 0, k, -1⟩
  done : ∀ k (h : k < l.length), l[k].kind = 0 → ∀ m (hm : m < (stR ts l k).length), (stR ts l k)[m].who = l[k].who → (stR ts l k)[m].to = -1 → p k = P (stR ts l k)[m]
theorem sub_st (hK : Kept ts l p P) (hv : ∀ j, j < l.length → erR ts l j = 0) : ∀ k, k ≤ l.length → stR ts (keepL l p k) (rankP p k) = subL p P (stR ts l k) ∧ ∀ j, j < rankP p k → erR ts (keepL l p k) j = 0
  | 0, _ => ⟨rfl, fun j hj => by simp [rankP] at hj⟩
  | k + 1, hk => by
    obtain ⟨ih1, ih2⟩ := sub_st hK hv k (by omega)
    have hkl : k < l.length := by omega
    have hg : l.getD k default = l[k] := by simp [hkl]
    have he := hv k hkl
    unfold erR at he
    rw [hg] at he
    have hst : stR ts l (k + 1) = (evR ts (stR ts l k) k l[k]).2 := by rw [stR, hg]
    obtain ⟨hform, hcase⟩ := evR_yes he
    have hcall := hK.call k hkl
    have hdone := hK.done k hkl
    by_cases hp : p k = true
    · have hkeep : keepL l p (k + 1) = keepL l p k ++ [l[k]] := by rw [keepL, if_pos hp, hg]
      have hrank : rankP p (k + 1) = rankP p k + 1 := by rw [rankP, if_pos hp]
      have hlen := keepL_len l p k
      have hgd : (keepL l p k ++ [l[k]]).getD (rankP p k) default = l[k] := by
        rw [List.getD_eq_getElem?_getD, List.getElem?_append_right (by omega), hlen]; simp
      suffices hs : evR ts (subL p P (stR ts l k)) (rankP p k) l[k] = (0, subL p P (stR ts l (k + 1))) by
        rw [hkeep, hrank]
        refine ⟨?_, fun j hj => ?_⟩
        · rw [stR, stR_more _ (by omega), ih1, hgd, hs]
        · by_cases e : j = rankP p k
          · subst e
            rw [erR, stR_more _ (by omega), ih1, hgd, hs]
          · rw [erR_more (by omega)]
            exact ih2 j (by omega)
      have hone := fun i j => st_one (ts := ts) (l := keepL l p k) (k := rankP p k) (i := i) (j := j)
      simp only [ih1] at hone
      generalize stR ts l k = S at *
      rw [hst]
      rcases hcase with ⟨hk0, m, hop, hm, hw, ht, hth, hans, hev⟩ | ⟨hk0, hkd, hop, hev⟩
      · rw [hev]
        have hgm : S.getD m default = S[m] := by simp [hm]
        rw [hgm] at hw ht hth hans ⊢
        have hPm : P S[m] = true := by rw [← hdone hk0 m hm hw ht]; exact hp
        obtain ⟨f1, f2⟩ := filt_yes (P := P) (c := { S[m] with res := l[k].value, to := (k : Int) }) (by rw [hK.turn]; exact hPm) hm hPm
        generalize ((S.take m).filter P).length = m' at f1 f2
        have hm' : m' < (S.filter P).length := (List.getElem?_eq_some_iff.1 f2).1
        have hsub : (subL p P S).getD m' default = subC p S[m] := by
          unfold subL
          rw [List.getD_eq_getElem?_getD, List.getElem?_map, f2]; rfl
        have hlen' : (subL p P S).length = (S.filter P).length := by simp [subL]
        have hat : ((subL p P S).getD m' default).who = l[k].who ∧ ((subL p P S).getD m' default).to = -1 := by
          rw [hsub]; exact ⟨hw, subTo_open.2 ht⟩
        have hsome := openTo_some (cs := subL p P S) (who := l[k].who) (j := m') (subL p P S).length (by omega) hat
        obtain ⟨q, hq, hql, hqw, hqt⟩ := openTo_at _ hsome
        have hqm : q = m' := by
          have gq : (subL p P S).getD q default = (subL p P S)[q] := by simp [hql]
          have gm : (subL p P S).getD m' default = (subL p P S)[m'] := by simp [hlen', hm']
          rw [gq] at hqw hqt
          rw [gm] at hat
          exact hone q m' hql (by omega) (hqw.trans hat.1.symm) hqt hat.2
        subst hqm
        unfold evR
        rw [if_neg (by rw [hform]; simp), if_pos hk0, hq, if_neg (by omega), show ((q : Nat) : Int).toNat = q by omega, hsub, if_pos ⟨hth, hans⟩]
        congr 1
        show (subL p P S).set q _ = subL p P (S.set m _)
        unfold subL
        rw [f1, List.map_set]
        congr 1 <;> simp [subC, subTo]
      · rw [hev]
        have hPc : P ⟨l[k].who, l[k].thing, l[k].kind, l[k].value, 0, k, -1⟩ = true := by rw [← hcall hk0]; exact hp
        have hno : openTo (subL p P S) l[k].who (subL p P S).length = -1 := by
          by_cases e : openTo (subL p P S) l[k].who (subL p P S).length = -1
          · exact e
          · obtain ⟨q, hq, hql, hqw, hqt⟩ := openTo_at _ e
            have gq : (subL p P S).getD q default = (subL p P S)[q] := by simp [hql]
            rw [gq] at hqw hqt
            have hmem : (subL p P S)[q] ∈ subL p P S := List.getElem_mem _
            generalize (subL p P S)[q] = d at *
            unfold subL at hmem
            rw [List.mem_map] at hmem
            obtain ⟨c, hc, rfl⟩ := hmem
            obtain ⟨hc1, _⟩ := List.mem_filter.1 hc
            obtain ⟨j, hj, rfl⟩ := List.mem_iff_getElem.1 hc1
            have gj : S.getD j default = S[j] := by simp [hj]
            exact absurd hop (openTo_some (cs := S) S.length hj (by rw [gj]; exact ⟨hqw, subTo_open.1 hqt⟩))
        unfold evR
        rw [if_neg (by rw [hform]; simp), if_neg hk0, if_neg (by rw [hkd]; simp), hno, if_neg (by decide)]
        congr 1
        unfold subL
        rw [List.filter_append, List.filter_cons, if_pos hPc, List.filter_nil, List.map_append]
        rfl
    · have hp' : p k = false := Bool.eq_false_iff.2 hp
      have hkeep : keepL l p (k + 1) = keepL l p k := by rw [keepL, if_neg hp]
      have hrank : rankP p (k + 1) = rankP p k := by rw [rankP, if_neg hp]
      rw [hkeep, hrank]
      refine ⟨?_, ih2⟩
      rw [ih1, hst]
      generalize stR ts l k = S at *
      rcases hcase with ⟨hk0, m, hop, hm, hw, ht, hth, hans, hev⟩ | ⟨hk0, hkd, hop, hev⟩
      · rw [hev]
        have hgm : S.getD m default = S[m] := by simp [hm]
        rw [hgm] at hw ht hth hans ⊢
        have hPm : P S[m] = false := by rw [← hdone hk0 m hm hw ht]; exact hp'
        unfold subL
        rw [filt_no (by rw [hK.turn]; exact hPm) hm hPm]
      · rw [hev]
        have hPc : P ⟨l[k].who, l[k].thing, l[k].kind, l[k].value, 0, k, -1⟩ = false := by rw [← hcall hk0]; exact hp'
        unfold subL
        rw [List.filter_append, List.filter_cons, if_neg (by rw [hPc]; simp), List.filter_nil, List.append_nil]
/-- the places of a call that P names are kept -/
theorem sub_places (hK : Kept ts l p P) (hv : ∀ j, j < l.length → erR ts l j = 0) : ∀ k, k ≤ l.length → ∀ c ∈ stR ts l k, P c = true → p c.from_.toNat = true ∧ (c.to ≠ -1 → 0 ≤ c.to ∧ p c.to.toNat = true)
  | 0, _ => by simp [stR]
  | k + 1, hk => by
    have ih := sub_places hK hv k (by omega)
    have hkl : k < l.length := by omega
    have hg : l.getD k default = l[k] := by simp [hkl]
    have he := hv k hkl
    unfold erR at he
    rw [hg] at he
    have hst : stR ts l (k + 1) = (evR ts (stR ts l k) k l[k]).2 := by rw [stR, hg]
    obtain ⟨hform, hcase⟩ := evR_yes he
    have hcall := hK.call k hkl
    have hdone := hK.done k hkl
    rw [hst]
    generalize stR ts l k = S at *
    intro c hc hPc
    rcases hcase with ⟨hk0, m, hop, hm, hw, ht, hth, hans, hev⟩ | ⟨hk0, hkd, hop, hev⟩
    · rw [hev] at hc
      have hgm : S.getD m default = S[m] := by simp [hm]
      rw [hgm] at hw ht hc
      rcases List.mem_or_eq_of_mem_set hc with h | h
      · exact ih c h hPc
      · subst h
        rw [hK.turn] at hPc
        refine ⟨(ih _ (List.getElem_mem hm) hPc).1, fun _ => ⟨by dsimp only; omega, ?_⟩⟩
        dsimp only
        rw [show ((k : Nat) : Int).toNat = k by omega, hdone hk0 m hm hw ht]
        exact hPc
    · rw [hev] at hc
      rcases List.mem_append.1 hc with h | h
      · exact ih c h hPc
      · rw [List.mem_singleton] at h
        subst h
        refine ⟨?_, fun h => absurd rfl h⟩
        dsimp only
        rw [show ((k : Nat) : Int).toNat = k by omega, hcall hk0]
        exact hPc
/-- what the part says -/
theorem sub_calls (ht : typesOk ts = true) (h200 : l.length ≤ 200) (hK : Kept ts l p P) (hv : ∀ j, j < l.length → erR ts l j = 0) : callsR ts (keepL l p l.length) = (subL p P (stR ts l l.length), 0, 0) := by
  obtain ⟨h1, h2⟩ := sub_st hK hv l.length (Nat.le_refl _)
  have h3 := keepL_len l p l.length
  have h4 := rankP_le p l.length
  rw [← h1, ← h3]
  exact callsR_ok ht (by omega) (fun j hj => h2 j (by omega))
end
end Go.Proofs.Ytaonijdhmgcbjaa

namespace Go.Proofs.Ytaonijdhmgcbjaa
open Go.RowKit

/-- is who within a call of n's, behind the first k events -/
def inW (l : List Ev) (n : Int) : Nat → Int → Bool
  | 0, _ => false
  | k + 1, w => if (l.getD k default).kind ≠ 0 ∧ w = (l.getD k default).who then decide ((l.getD k default).value = n) else inW l n k w
def bagP (l : List Ev) (n : Int) (k : Nat) : Bool := inW l n (k + 1) (l.getD k default).who
def bagA (n : Int) (c : Cl) : Bool := decide (c.arg = n)
def atB (k : Nat) (c : Cl) : Bool := decide (c.from_ = (k : Int)) || decide (c.to = (k : Int))
theorem cd {cs : List Cl} {k : Nat} (h : k < cs.length) : cs.getD k default = cs[k] := by simp [h]
theorem gd {l : List Ev} {k : Nat} (h : k < l.length) : l.getD k default = l[k] := by simp [h]
section
variable {ts : List Int} {l : List Ev} {n : Int}
theorem inW_open (hv : ∀ j, j < l.length → erR ts l j = 0) : ∀ k, k ≤ l.length → ∀ m (hm : m < (stR ts l k).length), (stR ts l k)[m].to = -1 → inW l n k (stR ts l k)[m].who = bagA n (stR ts l k)[m]
  | 0, _ => fun m hm => by simp [stR] at hm
  | k + 1, hk => by
    have ih := inW_open hv k (by omega)
    have hone := fun i j hi hj => st_one (ts := ts) (l := l) (k := k) (i := i) (j := j) hi hj
    obtain ⟨_, h⟩ := evR_yes (hv k (by omega))
    have hs : stR ts l (k + 1) = (evR ts (stR ts l k) k (l.getD k default)).2 := rfl
    rw [gd (show k < l.length by omega)] at h hs
    intro m hm hto
    unfold inW
    rw [gd (show k < l.length by omega)]
    rcases h with ⟨hk0, q, hq1, hq2, hq3, hq4, hq5, hq6, hq7⟩ | ⟨hk0, hq1, hq2, hq3⟩
    · rw [if_neg (fun e => e.1 hk0)]
      have e1 : stR ts l (k + 1) = (stR ts l k).set q { (stR ts l k).getD q default with res := l[k].value, to := (k : Int) } := hs.trans hq7
      have hm' : m < (stR ts l k).length := by rw [e1] at hm; simpa using hm
      by_cases e : q = m
      · subst e
        have : (stR ts l (k + 1))[q].to = (k : Int) := by simp only [e1, List.getElem_set_self]
        omega
      · have e2 : (stR ts l (k + 1))[m] = (stR ts l k)[m] := by simp only [e1]; rw [List.getElem_set_ne e]
        rw [e2] at hto ⊢
        exact ih m hm' hto
    · have e1 : stR ts l (k + 1) = stR ts l k ++ [⟨l[k].who, l[k].thing, l[k].kind, l[k].value, 0, (k : Int), -1⟩] := hs.trans hq3
      by_cases e : m < (stR ts l k).length
      · have e2 : (stR ts l (k + 1))[m] = (stR ts l k)[m] := by simp only [e1]; rw [List.getElem_append_left e]
        rw [e2] at hto ⊢
        rw [if_neg, ih m e hto]
        intro ⟨_, ew⟩
        have h1 := openTo_some (cs := stR ts l k) (who := l[k].who) (j := m) (stR ts l k).length e (by rw [cd e]; exact ⟨ew, hto⟩)
        omega
      · have hml : m = (stR ts l k).length := by rw [e1] at hm; simp at hm; omega
        have e2 : (stR ts l (k + 1))[m] = ⟨l[k].who, l[k].thing, l[k].kind, l[k].value, 0, (k : Int), -1⟩ := by simp only [e1]; rw [List.getElem_append_right (by omega)]; simp [hml]
        rw [e2, if_pos ⟨hk0, rfl⟩]; rfl
theorem bag_kept (hv : ∀ j, j < l.length → erR ts l j = 0) : Kept ts l (bagP l n) (bagA n) where
  turn c r t := rfl
  call k h h0 := by unfold bagP inW; rw [gd h, if_pos ⟨h0, rfl⟩]; rfl
  done k h h0 m hm hw ht := by
    unfold bagP inW
    rw [gd h, if_neg (fun e => e.1 h0), ← hw]
    exact inW_open hv k (by omega) m hm ht
/-- each event is of one call -/
structure OneAt (l : List Ev) (n : Int) (k : Nat) (cs : List Cl) : Prop where
  low : ∀ m (h : m < cs.length), 0 ≤ cs[m].from_ ∧ cs[m].from_ < k ∧ cs[m].to < k ∧ -1 ≤ cs[m].to
  one : ∀ i j (hi : i < cs.length) (hj : j < cs.length) q, atB q cs[i] = true → atB q cs[j] = true → i = j
  all : ∀ q, q < k → ∃ m, ∃ h : m < cs.length, atB q cs[m] = true ∧ bagP l n q = bagA n cs[m]
theorem atB_iff {q : Nat} {c : Cl} : atB q c = true ↔ c.from_ = (q : Int) ∨ c.to = (q : Int) := by unfold atB; simp
theorem one_at (hv : ∀ j, j < l.length → erR ts l j = 0) : ∀ k, k ≤ l.length → OneAt l n k (stR ts l k)
  | 0, _ => ⟨fun m h => by simp [stR] at h, fun i j hi => by simp [stR] at hi, fun q hq => by omega⟩
  | k + 1, hk => by
    obtain ⟨ih1, ih2, ih3⟩ := one_at hv k (by omega)
    obtain ⟨_, h⟩ := evR_yes (hv k (by omega))
    have hs : stR ts l (k + 1) = (evR ts (stR ts l k) k (l.getD k default)).2 := rfl
    have hK := bag_kept (n := n) hv
    rw [gd (show k < l.length by omega)] at h hs
    rcases h with ⟨hk0, q, hq1, hq2, hq3, hq4, hq5, hq6, hq7⟩ | ⟨hk0, hq1, hq2, hq3⟩
    · rw [cd hq2] at hq3 hq4 hq7
      have e1 : stR ts l (k + 1) = (stR ts l k).set q { (stR ts l k)[q] with res := l[k].value, to := (k : Int) } := hs.trans hq7
      have hbp := hK.done k (by omega) hk0 q hq2 hq3 hq4
      rw [e1]
      generalize stR ts l k = cs at *
      have hg : ∀ m (h : m < (cs.set q { cs[q] with res := l[k].value, to := (k : Int) }).length) (h' : m < cs.length), (cs.set q { cs[q] with res := l[k].value, to := (k : Int) })[m] = if q = m then { cs[q] with res := l[k].value, to := (k : Int) } else cs[m] := fun m h h' => List.getElem_set ..
      have hat : ∀ m (h' : m < cs.length) (r : Nat), atB r (if q = m then { cs[q] with res := l[k].value, to := (k : Int) } else cs[m]) = true → (r = k ∧ q = m) ∨ atB r cs[m] = true := fun m h' r hh => by
        split at hh
        · rename_i e
          subst e
          rcases atB_iff.1 hh with h1 | h1
          · exact .inr (atB_iff.2 (.inl h1))
          · left; dsimp only at h1; exact ⟨by omega, rfl⟩
        · exact .inr hh
      have hlow : ∀ m (h' : m < cs.length) (r : Nat), atB r cs[m] = true → r < k := fun m h' r hh => by
        have := ih1 m h'
        rcases atB_iff.1 hh with h1 | h1 <;> omega
      refine ⟨fun m hm => ?_, fun i j hi hj r h1 h2 => ?_, fun r hr => ?_⟩
      · have hm' : m < cs.length := by simpa using hm
        rw [hg m hm hm']
        have h1 := ih1 m hm'
        have h2 := ih1 q hq2
        split
        · dsimp only; omega
        · omega
      · have hi' : i < cs.length := by simpa using hi
        have hj' : j < cs.length := by simpa using hj
        rw [hg i hi hi'] at h1
        rw [hg j hj hj'] at h2
        rcases hat i hi' r h1 with ⟨e1, e2⟩ | e1 <;> rcases hat j hj' r h2 with ⟨e3, e4⟩ | e3
        · omega
        · have := hlow j hj' r e3; omega
        · have := hlow i hi' r e1; omega
        · exact ih2 i j hi' hj' r e1 e3
      · rcases Nat.lt_succ_iff_lt_or_eq.1 hr with h1 | rfl
        · obtain ⟨m, hm, h2, h3⟩ := ih3 r h1
          refine ⟨m, by simpa using hm, ?_, ?_⟩
          · rw [hg m (by simpa using hm) hm]
            split
            · rename_i e
              subst e
              rcases atB_iff.1 h2 with h4 | h4
              · exact atB_iff.2 (.inl h4)
              · omega
            · exact h2
          · rw [hg m (by simpa using hm) hm, h3]
            split
            · rename_i e; subst e; rfl
            · rfl
        · refine ⟨q, by simpa using hq2, ?_, ?_⟩
          · rw [hg q (by simpa using hq2) hq2, if_pos rfl]
            exact atB_iff.2 (.inr rfl)
          · rw [hg q (by simpa using hq2) hq2, if_pos rfl, hbp]; rfl
    · have e1 : stR ts l (k + 1) = stR ts l k ++ [⟨l[k].who, l[k].thing, l[k].kind, l[k].value, 0, (k : Int), -1⟩] := hs.trans hq3
      have hbp := hK.call k (by omega) hk0
      rw [e1]
      generalize stR ts l k = cs at *
      have hlow : ∀ m (h' : m < cs.length) (r : Nat), atB r cs[m] = true → r < k := fun m h' r hh => by
        have := ih1 m h'
        rcases atB_iff.1 hh with h1 | h1 <;> omega
      refine ⟨fun m hm => ?_, fun i j hi hj r h1 h2 => ?_, fun r hr => ?_⟩
      · by_cases e : m < cs.length
        · rw [List.getElem_append_left e]
          have := ih1 m e
          omega
        · rw [List.getElem_append_right (by omega)]
          simp
          omega
      · simp only [List.length_append, List.length_cons, List.length_nil] at hi hj
        have hnew : ∀ i (hi : i < (cs ++ [(⟨l[k].who, l[k].thing, l[k].kind, l[k].value, 0, (k : Int), -1⟩ : Cl)]).length), ¬ i < cs.length → atB r ((cs ++ [(⟨l[k].who, l[k].thing, l[k].kind, l[k].value, 0, (k : Int), -1⟩ : Cl)])[i]'hi) = true → r = k := fun i hi e hh => by
          rw [List.getElem_append_right (by omega)] at hh
          simp only [List.getElem_singleton] at hh
          rcases atB_iff.1 hh with h1 | h1 <;> (dsimp only at h1; omega)
        by_cases e : i < cs.length <;> by_cases e2 : j < cs.length
        · rw [List.getElem_append_left e] at h1
          rw [List.getElem_append_left e2] at h2
          exact ih2 i j e e2 r h1 h2
        · rw [List.getElem_append_left e] at h1
          have := hlow i e r h1
          have := hnew j (by simpa using hj) e2 h2
          omega
        · rw [List.getElem_append_left e2] at h2
          have := hlow j e2 r h2
          have := hnew i (by simpa using hi) e h1
          omega
        · omega
      · rcases Nat.lt_succ_iff_lt_or_eq.1 hr with h1 | rfl
        · obtain ⟨m, hm, h2, h3⟩ := ih3 r h1
          refine ⟨m, by simp; omega, ?_, ?_⟩
          · rw [List.getElem_append_left hm]; exact h2
          · rw [List.getElem_append_left hm]; exact h3
        · refine ⟨cs.length, by simp, ?_, ?_⟩
          · rw [List.getElem_append_right (by omega)]
            simp only [Nat.sub_self, List.getElem_singleton]
            exact atB_iff.2 (.inl rfl)
          · rw [List.getElem_append_right (by omega)]
            simp only [Nat.sub_self, List.getElem_singleton]
            rw [hbp]
end
/-- the events of these calls, as the document says them -/
def bagEv (l : List Ev) (own : List Cl) (k : Nat) : List Ev := (List.range k).flatMap fun i => (own.filter (atB i)).map fun _ => l.getD i default
theorem bagEv_succ (l : List Ev) (own : List Cl) (k : Nat) : bagEv l own (k + 1) = bagEv l own k ++ (own.filter (atB k)).map fun _ => l.getD k default := by
  unfold bagEv; rw [List.range_succ, List.flatMap_append]; simp
theorem filter_one {α : Type} {q : α → Bool} : ∀ {l : List α} {m : Nat}, (h : m < l.length) → q l[m] = true → (∀ i (hi : i < l.length), q l[i] = true → i = m) → l.filter q = [l[m]]
  | a :: l, 0, h, hq, hu => by
    rw [List.filter_cons, if_pos (show q a = true from hq)]
    show _ = [a]
    congr 1
    rw [List.filter_eq_nil_iff]
    intro x hx
    obtain ⟨i, hi, rfl⟩ := List.mem_iff_getElem.1 hx
    intro hh
    have := hu (i + 1) (by simpa using hi) (by simpa using hh)
    omega
  | a :: l, m + 1, h, hq, hu => by
    have h0 : ¬ q a = true := fun e => by have := hu 0 (by simp) e; omega
    rw [List.filter_cons, if_neg h0]
    exact filter_one (l := l) (m := m) (by simpa using h) (by simpa using hq) fun i hi hh => by have := hu (i + 1) (by simpa using hi) (by simpa using hh); omega
theorem bagEv_keep {l : List Ev} {n : Int} {cs : List Cl} (h : OneAt l n l.length cs) : ∀ k, k ≤ l.length → bagEv l (cs.filter (bagA n)) k = keepL l (bagP l n) k
  | 0, _ => rfl
  | k + 1, hk => by
    rw [bagEv_succ, bagEv_keep h k (by omega), keepL]
    obtain ⟨m, hm, h1, h2⟩ := h.all k (by omega)
    have hf : (cs.filter (bagA n)).filter (atB k) = (cs.filter (atB k)).filter (bagA n) := by rw [List.filter_filter, List.filter_filter]; congr 1; funext c; exact Bool.and_comm _ _
    rw [hf, filter_one hm h1 (fun i hi hh => h.one i m hi hm k hh h1), List.filter_cons, List.filter_nil, ← h2]
    by_cases e : bagP l n k = true
    · rw [if_pos e, if_pos e]; rfl
    · rw [if_neg e, if_neg e]; simp
end Go.Proofs.Ytaonijdhmgcbjaa

namespace Go.Proofs.Ytaonijdhmgcbjaa
open Go.RowKit

/-- S holds what S1 says, in any order; R is left -/
inductive Pull : List Ent → List Ent → List Ent → Prop
  | nil (S : List Ent) : Pull S [] S
  | cons {S R T R' : List Ent} {e : Ent} (h : Pick S e R) (t : Pull R T R') : Pull S (e :: T) R'
theorem Pull.mem : ∀ {S T R : List Ent}, Pull S T R → ∀ f, f ∈ T ++ R ↔ f ∈ S
  | _, _, _, .nil _, f => by simp
  | _, _, _, .cons h t, f => by
    obtain ⟨A, B, rfl, rfl⟩ := h.form
    have := t.mem f
    rw [List.cons_append, List.mem_cons, this]
    simp only [List.mem_append, List.mem_cons]
    constructor
    · rintro (h | h | h)
      · exact .inr (.inl h)
      · exact .inl h
      · exact .inr (.inr h)
    · rintro (h | h | h)
      · exact .inr (.inl h)
      · exact .inl h
      · exact .inr (.inr h)
section
variable {C : Ctx} {w : World} {S T R : List Ent}
theorem Mem.pull (hw : Mem C w S) (h : Pull S T R) : Mem C w (T ++ R) := by
  induction h with
  | nil S => exact hw
  | @cons S R T R' e h t ih =>
    have h1 := hw.pick h
    have hap := List.pairwise_cons.1 h1.apart
    have h2 := ih (h1.sub (List.sublist_cons_self _ _))
    refine ⟨h2.keeps, fun f hf => ?_, ?_⟩
    · rcases List.mem_cons.1 hf with rfl | hf
      · exact h1.holds f (by simp)
      · exact h2.holds f hf
    · exact List.pairwise_cons.2 ⟨fun f hf => hap.1 f ((t.mem f).1 hf), h2.apart⟩
end
/-- one list behind the other, laid flat -/
inductive AppL : List Ent → List Ent → List Ent → Prop
  | nil (R : List Ent) : AppL [] R R
  | cons {T R S2 : List Ent} (e : Ent) (h : AppL T R S2) : AppL (e :: T) R (e :: S2)
theorem AppL.eq {T R S2 : List Ent} (h : AppL T R S2) : T ++ R = S2 := by
  induction h with
  | nil R => rfl
  | cons e _ ih => rw [List.cons_append, ih]
section
variable {P : Program} {C : Ctx} {Q : Exit → Act → World → Prop} {E : Slots} {S S1 S1' R S2 : List Ent}
variable {d ty : Nat} {ps : String} {af : Array Edge} {g0 : Option (Nat × Bool)} {f : Nat}
/-- a call that turns what it is handed -/
theorem ES_callMp [hf : IsFn P f] {xs : List Operand} {vs : List Value} {ats : Array TypeId} {v : Value} (hx : evs E xs = some vs) (hS : Pull S S1 R) (hA : AppL S1' R S2)
    (hc : ∀ w, Mem C w (S1 ++ R) → Calls P f vs.toArray w fun e w' => e = .returned v ∧ Mem ⟨0, blks S1, w⟩ w' S1') (hd : Nat.ble (d + 1) C.n = true) :
    ES P C E S ⟨some d, .call ⟨.value (.func f), xs.toArray, ats⟩, ty, ps, af, g0⟩ (fun E' S' => E' = (d, v) :: E ∧ S' = S2) :=
  (ES_call (fun u T => u = v ∧ T = S1' ++ R) hx (fun w hw => (hc w (hw.pull hS)).mono fun e w' ⟨he, hb⟩ => ⟨v, _, he, (hw.pull hS).frame hb, rfl, rfl⟩) hd).weak (by rintro _ _ ⟨_, ⟨rfl, rfl⟩, rfl⟩; exact ⟨rfl, hA.eq⟩)
theorem Mem.blkAt {w : World} {g t : Nat} {cs : Array Value} (hw : Mem C w S) (hm : entBlk g t cs ∈ S) : g < w.heap.size ∧ ∀ o, w.cell? ⟨g, o, Option.none⟩ = cs[o]? :=
  ⟨((hw.holds _ hm).1 : Blk w g t cs).lt, fun o => ((hw.holds _ hm).1 : Blk w g t cs).cell o⟩
end
end Go.Proofs.Ytaonijdhmgcbjaa

namespace Go.Proofs.Ytaonijdhmgcbjaa
open Go.RowKit
set_option linter.unusedSectionVars false

theorem bools_nth (f : Nat → Bool) {m i : Nat} (h : i < m) : nthV (bools f m).toList i = some (.bool (f i)) := by
  rw [← nthV_eq]
  have := bools_at f m i h
  simpa using this
def inN (l : List Ev) (n : Int) (k : Nat) (i : Nat) : Bool := inW l n k (i : Int)
theorem inN_yes {l : List Ev} {n : Int} {k : Nat} (hk : k < l.length) (h0 : ¬ l[k].kind = 0) (hw : 0 ≤ l[k].who) : upz (inN l n k) l[k].who.toNat (decide (l[k].value = n)) = inN l n (k + 1) := by
  funext i
  unfold upz inN
  rw [inW, gd hk]
  by_cases e : i = l[k].who.toNat
  · rw [if_pos e, if_pos ⟨h0, by omega⟩]
  · rw [if_neg e, if_neg (fun h => e (by omega))]
theorem inN_no {l : List Ev} {n : Int} {k : Nat} (hk : k < l.length) (h0 : l[k].kind = 0) : inN l n k = inN l n (k + 1) := by
  funext i
  unfold inN
  rw [inW, gd hk, if_neg (fun h => h.1 h0)]
theorem bagP_at {l : List Ev} {n : Int} {k : Nat} (hk : k < l.length) (hw : 0 ≤ l[k].who) : bagP l n k = inN l n (k + 1) l[k].who.toNat := by
  unfold bagP inN
  rw [gd hk, show ((l[k].who.toNat : Nat) : Int) = l[k].who by omega]
theorem keepL_succ {l : List Ev} {p : Nat → Bool} {k : Nat} (hk : k < l.length) : keepL l p (k + 1) = if p k = true then keepL l p k ++ [l[k]] else keepL l p k := by rw [keepL, gd hk]
section
variable (B : Option Addr) (d : Nat) (l : List Ev) (n : Int) (w : World) (hl : l.length ≤ 200) (hA : RdEv w B l) (hw8 : ∀ k (h : k < l.length), 0 ≤ l[k].who ∧ l[k].who < 8)
include hl hA hw8
set_option maxRecDepth 100000 in
set_option maxHeartbeats 4000000 in
theorem bpart_any : Calls Try.prog 41 #[.slice B l.length d, .int .i64 n] w fun e w' => ∃ A c, e = .returned (.slice A (keepL l (bagP l n) l.length).length c) ∧ Own Ev.enc 4 34 w' w.heap.size (.slice A (keepL l (bagP l n) l.length).length c) (keepL l (bagP l n) l.length) ∧ Below w.heap.size w w' := by
  refine calls_T (S := []) [] Try.func41 rfl Try.ntmps41 (by simp) (Mem.nil _) ?_
  repeat' (first | ((first | with_reducible (first | apply TL_q | apply TD_q0 | apply TD_q1 | apply TD_q2 | apply TD_q3) | ((with_reducible (first | apply TD_q0y | apply TD_q1y)); exact rfl; exact rfl; (with_reducible exact rfl))); (first | ((with_reducible apply QS_load); exact rfl; exact Lds.blk (by first | ((repeat (first | with_reducible exact List.mem_cons_self | with_reducible apply List.mem_cons_of_mem)); done) | (repeat (first | exact List.Mem.head _ | apply List.Mem.tail))) (bools_nth _ (by omega))) | exact QS.auto); exact rfl) | ((with_reducible (first | apply TD_e2z | apply TD_e3z | apply TL_e | apply TD_e2 | apply TD_e3)); (first | ((with_reducible apply ES_store); exact rfl; exact rfl; (first | ((repeat (first | with_reducible exact Upd.here _ _ _ | with_reducible apply Upd.there)); done) | (repeat (first | exact Upd.here _ _ _ | apply Upd.there))); exact bools_set _ _ _ _; (rw [bools_size]; omega); exact rfl) | exact ES.auto); (first | exact rfl | exact ⟨rfl, rfl, rfl⟩); (first | (rintro _ _ ⟨rfl, rfl⟩) | (rintro _ _ ⟨g, rfl, rfl⟩) | (rintro _ _ ⟨A', c', rfl, rfl⟩)); (try refine ⟨SUB, ?_⟩)) | (refine GO ?_) | (refine GOE ?_; (first | (rintro _ _ ⟨rfl, rfl⟩) | (rintro _ _ ⟨g, rfl, rfl⟩) | (rintro _ _ ⟨A', c', rfl, rfl⟩))) | ((refine GO2 ?_ ?_) <;> intro h <;> (try (repeat (first | with_reducible (replace h := of_decide_eq_true h) | with_reducible (replace h := of_decide_eq_false h) | with_reducible (replace h := bnt h) | with_reducible (replace h := bnf h) | with_reducible (replace h := Int.not_lt.mp h) | with_reducible (replace h := Int.not_le.mp h) | with_reducible (replace h := band_dec h) | with_reducible (replace h := band_decF h) | with_reducible (replace h := bor_dec h) | with_reducible (replace h := bor_decF h)))) <;> (try (exfalso; first | contradiction | omega))) | fail)
  obtain ⟨g6, rfl⟩ : ∃ x, x = g := ⟨_, rfl⟩
  refine T_loop (X := Nat × Option Addr × Nat) (fun x => [(12, .int .i64 (x.1 : Nat)), (11, .int .i64 l.length), (10, .slice B l.length d), (6, .pointer (some ⟨g6, 0, none⟩)), (5, .slice x.2.1 (keepL l (bagP l n) x.1).length x.2.2), (1, .int .i64 n)])
    (fun x => [entBlk g6 152 (bools (inN l n x.1) 8), entOwn Ev.enc 4 34 x.2.1 x.2.2 (keepL l (bagP l n) x.1)]) (fun x => x.1 ≤ l.length) (fun x => l.length - x.1) (0, none, 0) (by (try dsimp only); omega) (by (try dsimp only); (repeat (first | exact SubE.nil _ | refine SubE.cons rfl ?_)))
    (fun w' hw => by
      show Mem _ w' [entBlk g6 152 #[.bool false, .bool false, .bool false, .bool false, .bool false, .bool false, .bool false, .bool false], entOwn Ev.enc 4 34 none 0 []]
      exact (hw.nilOwn Ev.enc 4 34).sel (by (repeat (first | exact Sel.nil _ | (apply Sel.cons; (repeat (first | with_reducible exact Pick.here _ _ | with_reducible apply Pick.there))))))) ?_
  rintro ⟨k, A1, c1⟩ hk
  dsimp only at hk ⊢
  have hkn : (keepL l (bagP l n) k).length ≤ k := by rw [keepL_len]; exact rankP_le _ k
  by_cases hkl : k < l.length
  · obtain ⟨b, o, rfl, _⟩ := RdE.open hA (by omega)
    obtain ⟨hw0, hw1⟩ := hw8 k hkl
    have hks := keepL_succ (p := bagP l n) hkl
    have hbp := bagP_at (n := n) hkl hw0
    by_cases h0 : l[k].kind = 0
    · have hup := inN_no (n := n) hkl h0
      rw [← hup] at hbp
      generalize keepL l (bagP l n) k = K at *
      cases hb : bagP l n k
      · rw [if_neg (by rw [hb]; decide)] at hks
        rw [hb] at hbp
        repeat' (first | ((first | with_reducible (first | apply TL_q | apply TD_q0 | apply TD_q1 | apply TD_q2 | apply TD_q3) | ((with_reducible (first | apply TD_q0y | apply TD_q1y)); exact rfl; exact rfl; (with_reducible exact rfl))); (first | ((with_reducible apply QS_load); exact rfl; exact Lds.blk (by first | ((repeat (first | with_reducible exact List.mem_cons_self | with_reducible apply List.mem_cons_of_mem)); done) | (repeat (first | exact List.Mem.head _ | apply List.Mem.tail))) (bools_nth _ (by omega))) | exact QS.auto); exact rfl) | ((with_reducible (first | apply TD_e2z | apply TD_e3z | apply TL_e | apply TD_e2 | apply TD_e3)); (first | ((with_reducible apply ES_store); exact rfl; exact rfl; (first | ((repeat (first | with_reducible exact Upd.here _ _ _ | with_reducible apply Upd.there)); done) | (repeat (first | exact Upd.here _ _ _ | apply Upd.there))); exact bools_set _ _ _ _; (rw [bools_size]; omega); exact rfl) | exact ES.auto); (first | exact rfl | exact ⟨rfl, rfl, rfl⟩); (first | (rintro _ _ ⟨rfl, rfl⟩) | (rintro _ _ ⟨g, rfl, rfl⟩) | (rintro _ _ ⟨A', c', rfl, rfl⟩)); (try refine ⟨SUB, ?_⟩)) | (refine GO ?_) | (refine GOE ?_; (first | (rintro _ _ ⟨rfl, rfl⟩) | (rintro _ _ ⟨g, rfl, rfl⟩) | (rintro _ _ ⟨A', c', rfl, rfl⟩))) | ((refine GO2 ?_ ?_) <;> intro h <;> (try (repeat (first | with_reducible (replace h := of_decide_eq_true h) | with_reducible (replace h := of_decide_eq_false h) | with_reducible (replace h := bnt h) | with_reducible (replace h := bnf h) | with_reducible (replace h := Int.not_lt.mp h) | with_reducible (replace h := Int.not_le.mp h) | with_reducible (replace h := band_dec h) | with_reducible (replace h := band_decF h) | with_reducible (replace h := bor_dec h) | with_reducible (replace h := bor_decF h)))) <;> (try (exfalso; first | contradiction | omega))) | fail)
        all_goals first
          | (exfalso; first | exact Bool.noConfusion (hbp.trans (show _ = true by assumption)) | exact Bool.noConfusion (hbp.trans (show _ = false by assumption)) | exact Bool.noConfusion ((show _ = true by assumption).symm.trans hbp) | (simp_all; done))
          | (apply At_rounds (k + 1, A1, c1); (case hE => (try dsimp only); rw [hks]; (repeat (first | exact SubE.nil _ | refine SubE.cons rfl ?_))); (case hS => (try dsimp only); rw [hks, ← hup]; exact fun w' hw => hw.sel (by (repeat (first | exact Sel.nil _ | (apply Sel.cons; (repeat (first | with_reducible exact Pick.here _ _ | with_reducible apply Pick.there))))))); (case hμ => (try dsimp only); omega); (case hp => (try dsimp only); omega))
      · rw [if_pos hb] at hks
        rw [hb] at hbp
        repeat' (first | ((first | with_reducible (first | apply TL_q | apply TD_q0 | apply TD_q1 | apply TD_q2 | apply TD_q3) | ((with_reducible (first | apply TD_q0y | apply TD_q1y)); exact rfl; exact rfl; (with_reducible exact rfl))); (first | ((with_reducible apply QS_load); exact rfl; exact Lds.blk (by first | ((repeat (first | with_reducible exact List.mem_cons_self | with_reducible apply List.mem_cons_of_mem)); done) | (repeat (first | exact List.Mem.head _ | apply List.Mem.tail))) (bools_nth _ (by omega))) | exact QS.auto); exact rfl) | ((with_reducible (first | apply TD_e2z | apply TD_e3z | apply TL_e | apply TD_e2 | apply TD_e3)); (first | ((with_reducible apply ES_store); exact rfl; exact rfl; (first | ((repeat (first | with_reducible exact Upd.here _ _ _ | with_reducible apply Upd.there)); done) | (repeat (first | exact Upd.here _ _ _ | apply Upd.there))); exact bools_set _ _ _ _; (rw [bools_size]; omega); exact rfl) | exact ES.auto); (first | exact rfl | exact ⟨rfl, rfl, rfl⟩); (first | (rintro _ _ ⟨rfl, rfl⟩) | (rintro _ _ ⟨g, rfl, rfl⟩) | (rintro _ _ ⟨A', c', rfl, rfl⟩)); (try refine ⟨SUB, ?_⟩)) | (refine GO ?_) | (refine GOE ?_; (first | (rintro _ _ ⟨rfl, rfl⟩) | (rintro _ _ ⟨g, rfl, rfl⟩) | (rintro _ _ ⟨A', c', rfl, rfl⟩))) | ((refine GO2 ?_ ?_) <;> intro h <;> (try (repeat (first | with_reducible (replace h := of_decide_eq_true h) | with_reducible (replace h := of_decide_eq_false h) | with_reducible (replace h := bnt h) | with_reducible (replace h := bnf h) | with_reducible (replace h := Int.not_lt.mp h) | with_reducible (replace h := Int.not_le.mp h) | with_reducible (replace h := band_dec h) | with_reducible (replace h := band_decF h) | with_reducible (replace h := bor_dec h) | with_reducible (replace h := bor_decF h)))) <;> (try (exfalso; first | contradiction | omega))) | ((with_reducible (first | apply TD_e2z | apply TD_e3z | apply TL_e | apply TD_e2 | apply TD_e3)); ((with_reducible apply ES_append1 (enc := Ev.enc) (xx := l[k])); exact rfl; exact rfl; (repeat (first | with_reducible exact List.mem_cons_self | with_reducible apply List.mem_cons_of_mem)); exact rfl; exact fun _ => rfl; exact fun _ => rfl; (intro A' c'; first | ((repeat (first | with_reducible exact Upd.here _ _ _ | with_reducible apply Upd.there)); done) | (repeat (first | exact Upd.here _ _ _ | apply Upd.there))); (omega); decide; exact rfl); (first | exact rfl | exact ⟨rfl, rfl, rfl⟩); (rintro _ _ ⟨A', c', rfl, rfl⟩); (try refine ⟨SUB, ?_⟩)) | fail)
        all_goals first
          | (exfalso; first | exact Bool.noConfusion (hbp.trans (show _ = true by assumption)) | exact Bool.noConfusion (hbp.trans (show _ = false by assumption)) | exact Bool.noConfusion ((show _ = true by assumption).symm.trans hbp) | (simp_all; done))
          | (apply At_rounds (k + 1, A', c'); (case hE => (try dsimp only); rw [hks]; (repeat (first | exact SubE.nil _ | refine SubE.cons rfl ?_))); (case hS => (try dsimp only); rw [hks, ← hup]; exact fun w' hw => hw.sel (by (repeat (first | exact Sel.nil _ | (apply Sel.cons; (repeat (first | with_reducible exact Pick.here _ _ | with_reducible apply Pick.there))))))); (case hμ => (try dsimp only); omega); (case hp => (try dsimp only); omega))
    · have hup := inN_yes (n := n) hkl h0 hw0
      rw [← hup] at hbp
      generalize keepL l (bagP l n) k = K at *
      cases hb : bagP l n k
      · rw [if_neg (by rw [hb]; decide)] at hks
        rw [hb] at hbp
        repeat' (first | ((first | with_reducible (first | apply TL_q | apply TD_q0 | apply TD_q1 | apply TD_q2 | apply TD_q3) | ((with_reducible (first | apply TD_q0y | apply TD_q1y)); exact rfl; exact rfl; (with_reducible exact rfl))); (first | ((with_reducible apply QS_load); exact rfl; exact Lds.blk (by first | ((repeat (first | with_reducible exact List.mem_cons_self | with_reducible apply List.mem_cons_of_mem)); done) | (repeat (first | exact List.Mem.head _ | apply List.Mem.tail))) (bools_nth _ (by omega))) | exact QS.auto); exact rfl) | ((with_reducible (first | apply TD_e2z | apply TD_e3z | apply TL_e | apply TD_e2 | apply TD_e3)); (first | ((with_reducible apply ES_store); exact rfl; exact rfl; (first | ((repeat (first | with_reducible exact Upd.here _ _ _ | with_reducible apply Upd.there)); done) | (repeat (first | exact Upd.here _ _ _ | apply Upd.there))); exact bools_set _ _ _ _; (rw [bools_size]; omega); exact rfl) | exact ES.auto); (first | exact rfl | exact ⟨rfl, rfl, rfl⟩); (first | (rintro _ _ ⟨rfl, rfl⟩) | (rintro _ _ ⟨g, rfl, rfl⟩) | (rintro _ _ ⟨A', c', rfl, rfl⟩)); (try refine ⟨SUB, ?_⟩)) | (refine GO ?_) | (refine GOE ?_; (first | (rintro _ _ ⟨rfl, rfl⟩) | (rintro _ _ ⟨g, rfl, rfl⟩) | (rintro _ _ ⟨A', c', rfl, rfl⟩))) | ((refine GO2 ?_ ?_) <;> intro h <;> (try (repeat (first | with_reducible (replace h := of_decide_eq_true h) | with_reducible (replace h := of_decide_eq_false h) | with_reducible (replace h := bnt h) | with_reducible (replace h := bnf h) | with_reducible (replace h := Int.not_lt.mp h) | with_reducible (replace h := Int.not_le.mp h) | with_reducible (replace h := band_dec h) | with_reducible (replace h := band_decF h) | with_reducible (replace h := bor_dec h) | with_reducible (replace h := bor_decF h)))) <;> (try (exfalso; first | contradiction | omega))) | fail)
        all_goals first
          | (exfalso; first | exact Bool.noConfusion (hbp.trans (show _ = true by assumption)) | exact Bool.noConfusion (hbp.trans (show _ = false by assumption)) | exact Bool.noConfusion ((show _ = true by assumption).symm.trans hbp) | (simp_all; done))
          | (apply At_rounds (k + 1, A1, c1); (case hE => (try dsimp only); rw [hks]; (repeat (first | exact SubE.nil _ | refine SubE.cons rfl ?_))); (case hS => (try dsimp only); rw [hks, ← hup]; exact fun w' hw => hw.sel (by (repeat (first | exact Sel.nil _ | (apply Sel.cons; (repeat (first | with_reducible exact Pick.here _ _ | with_reducible apply Pick.there))))))); (case hμ => (try dsimp only); omega); (case hp => (try dsimp only); omega))
      · rw [if_pos hb] at hks
        rw [hb] at hbp
        repeat' (first | ((first | with_reducible (first | apply TL_q | apply TD_q0 | apply TD_q1 | apply TD_q2 | apply TD_q3) | ((with_reducible (first | apply TD_q0y | apply TD_q1y)); exact rfl; exact rfl; (with_reducible exact rfl))); (first | ((with_reducible apply QS_load); exact rfl; exact Lds.blk (by first | ((repeat (first | with_reducible exact List.mem_cons_self | with_reducible apply List.mem_cons_of_mem)); done) | (repeat (first | exact List.Mem.head _ | apply List.Mem.tail))) (bools_nth _ (by omega))) | exact QS.auto); exact rfl) | ((with_reducible (first | apply TD_e2z | apply TD_e3z | apply TL_e | apply TD_e2 | apply TD_e3)); (first | ((with_reducible apply ES_store); exact rfl; exact rfl; (first | ((repeat (first | with_reducible exact Upd.here _ _ _ | with_reducible apply Upd.there)); done) | (repeat (first | exact Upd.here _ _ _ | apply Upd.there))); exact bools_set _ _ _ _; (rw [bools_size]; omega); exact rfl) | exact ES.auto); (first | exact rfl | exact ⟨rfl, rfl, rfl⟩); (first | (rintro _ _ ⟨rfl, rfl⟩) | (rintro _ _ ⟨g, rfl, rfl⟩) | (rintro _ _ ⟨A', c', rfl, rfl⟩)); (try refine ⟨SUB, ?_⟩)) | (refine GO ?_) | (refine GOE ?_; (first | (rintro _ _ ⟨rfl, rfl⟩) | (rintro _ _ ⟨g, rfl, rfl⟩) | (rintro _ _ ⟨A', c', rfl, rfl⟩))) | ((refine GO2 ?_ ?_) <;> intro h <;> (try (repeat (first | with_reducible (replace h := of_decide_eq_true h) | with_reducible (replace h := of_decide_eq_false h) | with_reducible (replace h := bnt h) | with_reducible (replace h := bnf h) | with_reducible (replace h := Int.not_lt.mp h) | with_reducible (replace h := Int.not_le.mp h) | with_reducible (replace h := band_dec h) | with_reducible (replace h := band_decF h) | with_reducible (replace h := bor_dec h) | with_reducible (replace h := bor_decF h)))) <;> (try (exfalso; first | contradiction | omega))) | ((with_reducible (first | apply TD_e2z | apply TD_e3z | apply TL_e | apply TD_e2 | apply TD_e3)); ((with_reducible apply ES_append1 (enc := Ev.enc) (xx := l[k])); exact rfl; exact rfl; (repeat (first | with_reducible exact List.mem_cons_self | with_reducible apply List.mem_cons_of_mem)); exact rfl; exact fun _ => rfl; exact fun _ => rfl; (intro A' c'; first | ((repeat (first | with_reducible exact Upd.here _ _ _ | with_reducible apply Upd.there)); done) | (repeat (first | exact Upd.here _ _ _ | apply Upd.there))); (omega); decide; exact rfl); (first | exact rfl | exact ⟨rfl, rfl, rfl⟩); (rintro _ _ ⟨A', c', rfl, rfl⟩); (try refine ⟨SUB, ?_⟩)) | fail)
        all_goals first
          | (exfalso; first | exact Bool.noConfusion (hbp.trans (show _ = true by assumption)) | exact Bool.noConfusion (hbp.trans (show _ = false by assumption)) | exact Bool.noConfusion ((show _ = true by assumption).symm.trans hbp) | (simp_all; done))
          | (apply At_rounds (k + 1, A', c'); (case hE => (try dsimp only); rw [hks]; (repeat (first | exact SubE.nil _ | refine SubE.cons rfl ?_))); (case hS => (try dsimp only); rw [hks, ← hup]; exact fun w' hw => hw.sel (by (repeat (first | exact Sel.nil _ | (apply Sel.cons; (repeat (first | with_reducible exact Pick.here _ _ | with_reducible apply Pick.there))))))); (case hμ => (try dsimp only); omega); (case hp => (try dsimp only); omega))
  · obtain rfl : k = l.length := by omega
    repeat' (first | ((first | with_reducible (first | apply TL_q | apply TD_q0 | apply TD_q1 | apply TD_q2 | apply TD_q3) | ((with_reducible (first | apply TD_q0y | apply TD_q1y)); exact rfl; exact rfl; (with_reducible exact rfl))); (first | ((with_reducible apply QS_load); exact rfl; exact Lds.blk (by first | ((repeat (first | with_reducible exact List.mem_cons_self | with_reducible apply List.mem_cons_of_mem)); done) | (repeat (first | exact List.Mem.head _ | apply List.Mem.tail))) (bools_nth _ (by omega))) | exact QS.auto); exact rfl) | ((with_reducible (first | apply TD_e2z | apply TD_e3z | apply TL_e | apply TD_e2 | apply TD_e3)); (first | ((with_reducible apply ES_store); exact rfl; exact rfl; (first | ((repeat (first | with_reducible exact Upd.here _ _ _ | with_reducible apply Upd.there)); done) | (repeat (first | exact Upd.here _ _ _ | apply Upd.there))); exact bools_set _ _ _ _; (rw [bools_size]; omega); exact rfl) | exact ES.auto); (first | exact rfl | exact ⟨rfl, rfl, rfl⟩); (first | (rintro _ _ ⟨rfl, rfl⟩) | (rintro _ _ ⟨g, rfl, rfl⟩) | (rintro _ _ ⟨A', c', rfl, rfl⟩)); (try refine ⟨SUB, ?_⟩)) | (refine GO ?_) | (refine GOE ?_; (first | (rintro _ _ ⟨rfl, rfl⟩) | (rintro _ _ ⟨g, rfl, rfl⟩) | (rintro _ _ ⟨A', c', rfl, rfl⟩))) | ((refine GO2 ?_ ?_) <;> intro h <;> (try (repeat (first | with_reducible (replace h := of_decide_eq_true h) | with_reducible (replace h := of_decide_eq_false h) | with_reducible (replace h := bnt h) | with_reducible (replace h := bnf h) | with_reducible (replace h := Int.not_lt.mp h) | with_reducible (replace h := Int.not_le.mp h) | with_reducible (replace h := band_dec h) | with_reducible (replace h := band_decF h) | with_reducible (replace h := bor_dec h) | with_reducible (replace h := bor_decF h)))) <;> (try (exfalso; first | contradiction | omega))) | fail)
    (refine At_ret Try.results41 rfl (fun w' hw => ?_))
    exact ⟨A1, c1, rfl, hw.ownOut rfl (by first | ((repeat (first | with_reducible exact List.mem_cons_self | with_reducible apply List.mem_cons_of_mem)); done) | (repeat (first | exact List.Mem.head _ | apply List.Mem.tail))), hw.below0 rfl⟩
end
end Go.Proofs.Ytaonijdhmgcbjaa
