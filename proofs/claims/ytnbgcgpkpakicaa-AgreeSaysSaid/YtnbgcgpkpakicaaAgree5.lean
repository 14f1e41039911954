/- agree, plain: what the machine decides is what the document says. -/
import Derived.Test.YtnbgcgpkpakicaaAgree3
import Derived.Test.YtnbgcgpkpakicaaAgree4
namespace Go.Proofs.Ytnbgcgpkpakicaa
open Go.RowKit

/-- how often somebody stepped, of the first k steps -/
def cK (l : List Int) (k : Nat) (t : Int) : Nat := (l.take k).count t
theorem cK_zero (l : List Int) (t : Int) : cK l 0 t = 0 := by simp [cK]
theorem cK_succ {l : List Int} {k : Nat} (hk : k < l.length) (t : Int) : cK l (k + 1) t = cK l k t + if l[k] = t then 1 else 0 := by
  unfold cK
  rw [List.take_succ_eq_append_getElem hk, List.count_append, List.count_singleton]
  by_cases h : l[k] = t
  · simp [h]
  · have : (l[k] == t) = false := by simpa using h
    simp [h]
theorem nth_lt : ∀ (l : List Int) (t : Int) (m k : Nat), k ≤ l.length → (nthS l t m < k ↔ m < (l.take k).count t)
  | [], t, m, k, hk => by
    obtain rfl : k = 0 := by simpa using hk
    simp
  | w :: l, t, m, 0, _ => by simp
  | w :: l, t, m, k + 1, hk => by
    have ih := fun m => nth_lt l t m k (by simpa using hk)
    rw [nthS, List.take_succ_cons, List.count_cons]
    by_cases h : w = t
    · subst h
      rw [if_pos rfl]
      simp only [beq_self_eq_true, if_true]
      cases m with
      | zero => simp
      | succ m =>
        rw [if_neg (by omega)]
        have := ih m
        simp only [Nat.add_sub_cancel]
        omega
    · have hb : (w == t) = false := by simpa using h
      rw [if_neg h, hb]
      have := ih m
      simp only [Bool.false_eq_true, if_false]
      omega
theorem nth_at {l : List Int} {k : Nat} (hk : k < l.length) {m : Nat} (h : cK l k l[k] = m) : nthS l l[k] m = k := by
  have h1 := nth_lt l l[k] m k (by omega)
  have h2 := nth_lt l l[k] m (k + 1) (by omega)
  have h3 := cK_succ hk l[k]
  rw [if_pos rfl] at h3
  unfold cK at h h3
  omega
theorem getD_set {l : List Int} {i : Nat} (hi : i < l.length) (v : Int) (j : Nat) : (l.set i v).getD j 0 = if j = i then v else l.getD j 0 := by
  simp only [List.getD_eq_getElem?_getD]
  by_cases e : j = i
  · subst e; rw [if_pos rfl, List.getElem?_set_self hi]; rfl
  · rw [if_neg e, List.getElem?_set_ne (fun h => e h.symm)]
section
variable {vs l : List Int}
/-- what is so ahead of step k, for the first algorithm -/
structure CasI (vs l : List Int) (k : Nat) (st : AS) : Prop where
  step : ∀ t : Nat, t < vs.length → st.step.getD t 0 = if cK l k t = 0 then 0 else 1
  out : ∀ t : Nat, t < vs.length → st.out.getD t 0 = if 2 ≤ cK l k t then vs.getD (l.getD 0 0).toNat 0 else -1
  D : lookM st.D (-1) = if k = 0 then none else some (vs.getD (l.getD 0 0).toNat 0)
theorem cas_inv (hv : votesE 1 vs l = 0) : ∀ k, k ≤ l.length → CasI vs l k (playS 1 vs l k)
  | 0, _ => by
    have hr : ∀ (z : Int) (t : Nat), t < vs.length → (List.replicate vs.length z).getD t 0 = z := fun z t ht => by
      simp [List.getD_eq_getElem?_getD, ht]
    exact ⟨fun t ht => by simp [playS, startS, cK_zero, ht], fun t ht => by rw [cK_zero]; exact hr (-1) t ht, rfl⟩
  | k + 1, hk => by
    obtain ⟨g1, g2, g3, g4, g5, hl3, hin, hpos⟩ := votes_inv hv
    have hkl : k < l.length := by omega
    have I := cas_inv hv k (by omega)
    have F := playS_fit 1 vs l k (by omega)
    rw [playS_succ 1 vs hkl]
    obtain ⟨t, ht⟩ := Int.eq_ofNat_of_zero_le (hin k hkl).1
    have htn : t < vs.length := by have := (hin k hkl).2; omega
    have hct : cK l (k + 1) t = cK l k t + 1 := by rw [cK_succ hkl, if_pos ht]
    have hcn : ∀ t' : Nat, t' ≠ t → cK l (k + 1) t' = cK l k t' := fun t' h => by rw [cK_succ hkl, if_neg (by omega)]; rfl
    have hfirst : 0 ≤ vs.getD (l.getD 0 0).toNat 0 := by
      have h0 := hin 0 (by omega)
      have e1 : l.getD 0 0 = l[0] := by simp [show 0 < l.length by omega]
      rw [e1, List.getD_eq_getElem?_getD, List.getElem?_eq_getElem (by omega)]
      exact hpos _ _
    generalize hst : playS 1 vs l k = st at I F ⊢
    have ot := I.out t htn
    have stt := I.step t htn
    have so := F.out
    have ss := F.step
    unfold goS
    rw [show l[k].toNat = t by omega, ot]
    by_cases c2 : 2 ≤ cK l k t
    · rw [if_pos c2, if_neg (by omega)]
      refine ⟨fun t' ht' => ?_, fun t' ht' => ?_, ?_⟩
      · rw [I.step t' ht']
        by_cases e : t' = t
        · subst e; rw [hct, if_neg (by omega), if_neg (by omega)]
        · rw [hcn t' e]
      · rw [I.out t' ht']
        by_cases e : t' = t
        · subst e; rw [hct, if_pos c2, if_pos (by omega)]
        · rw [hcn t' e]
      · rw [I.D, if_neg (show ¬ k + 1 = 0 by omega)]
        have : ¬ k = 0 := fun e => by subst e; rw [cK_zero] at c2; omega
        rw [if_neg this]
    · rw [if_neg c2, if_pos (by decide)]
      have et : turnS 1 vs st t = casS vs st t := rfl
      rw [et]
      unfold casS
      rw [stt]
      by_cases c0 : cK l k t = 0
      · rw [if_pos c0, if_pos rfl]
        refine ⟨fun t' ht' => ?_, fun t' ht' => ?_, ?_⟩
        · dsimp only
          rw [getD_set (by omega), I.step t' ht']
          by_cases e : t' = t
          · subst e; rw [if_pos rfl, hct, if_neg (by omega)]
          · rw [if_neg e, hcn t' e]
        · dsimp only
          rw [I.out t' ht']
          by_cases e : t' = t
          · subst e; rw [if_neg c2, hct, if_neg (by omega)]
          · rw [hcn t' e]
        · dsimp only
          rw [if_neg (show ¬ k + 1 = 0 by omega), I.D]
          by_cases k0 : k = 0
          · subst k0
            rw [if_pos rfl]
            simp only [Option.isSome_none, Bool.false_eq_true, if_false, lookM_put, if_true]
            have e1 : l.getD 0 0 = l[0] := by simp [show 0 < l.length by omega]
            rw [e1, ht]; rfl
          · rw [if_neg k0]
            simp only [Option.isSome_some, if_true]
            rw [I.D, if_neg k0]
      · rw [if_neg c0, if_neg (by decide)]
        have k0 : ¬ k = 0 := fun e => by subst e; rw [cK_zero] at c0; omega
        refine ⟨fun t' ht' => ?_, fun t' ht' => ?_, ?_⟩
        · dsimp only
          rw [I.step t' ht']
          by_cases e : t' = t
          · subst e; rw [if_neg c0, hct, if_neg (by omega)]
          · rw [hcn t' e]
        · dsimp only
          rw [getD_set (by omega), I.out t' ht', I.D, if_neg k0]
          by_cases e : t' = t
          · subst e; rw [if_pos rfl, hct, if_pos (by omega)]; rfl
          · rw [if_neg e, hcn t' e]
        · rw [if_neg (show ¬ k + 1 = 0 by omega)]
          show lookM st.D (-1) = _
          rw [I.D, if_neg k0]
end
end Go.Proofs.Ytnbgcgpkpakicaa
