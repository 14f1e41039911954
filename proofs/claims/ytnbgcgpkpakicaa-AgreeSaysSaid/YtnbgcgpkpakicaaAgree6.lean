/- agree, plain: tickets and the naive way. -/
import Derived.Test.YtnbgcgpkpakicaaAgree5
namespace Go.Proofs.Ytnbgcgpkpakicaa
open Go.RowKit

section
variable {vs l : List Int}
structure TickI (vs l : List Int) (k : Nat) (st : AS) : Prop where
  step : ∀ t u : Nat, t + u = 1 → st.step.getD t 0 = if cK l k t = 0 then 0 else if cK l k t = 1 then 1 else 2
  out : ∀ t u : Nat, t + u = 1 → st.out.getD t 0 = if 3 ≤ cK l k t then (if nthS l u 1 < nthS l t 1 then vs.getD u 0 else vs.getD t 0) else -1
  x : ∀ t u : Nat, t + u = 1 → 2 ≤ cK l k t → st.x.getD t 0 = if nthS l u 1 < nthS l t 1 then 1 else 0
  count : ∀ t u : Nat, t + u = 1 → st.count = (if 2 ≤ cK l k t then 1 else 0) + (if 2 ≤ cK l k u then 1 else 0)
  D : ∀ t u : Nat, t + u = 1 → 1 ≤ cK l k t → lookM st.D t = some (vs.getD t 0)
theorem tick_inv (hv : votesE 2 vs l = 0) : ∀ k, k ≤ l.length → TickI vs l k (playS 2 vs l k)
  | 0, _ => by
    obtain ⟨g1, g2, g3, g4, g5, hl3, hin, hpos⟩ := votes_inv hv
    have h2 : vs.length = 2 := by omega
    have hr : ∀ (z : Int) (t : Nat), t < vs.length → (List.replicate vs.length z).getD t 0 = z := fun z t ht => by
      simp [List.getD_eq_getElem?_getD, ht]
    exact ⟨fun t u h => by rw [cK_zero]; exact hr 0 t (by omega), fun t u h => by rw [cK_zero]; exact hr (-1) t (by omega), fun t u h h3 => by rw [cK_zero] at h3; omega, fun t u h => by rw [cK_zero, cK_zero]; rfl, fun t u h h3 => by rw [cK_zero] at h3; omega⟩
  | k + 1, hk => by
    obtain ⟨g1, g2, g3, g4, g5, hl3, hin, hpos⟩ := votes_inv hv
    have h2 : vs.length = 2 := by omega
    have hkl : k < l.length := by omega
    have I := tick_inv hv k (by omega)
    have F := playS_fit 2 vs l k (by omega)
    rw [playS_succ 2 vs hkl]
    obtain ⟨t, ht⟩ := Int.eq_ofNat_of_zero_le (hin k hkl).1
    have htn : t < 2 := by have := (hin k hkl).2; omega
    obtain ⟨u, hu⟩ : ∃ u, t + u = 1 := ⟨1 - t, by omega⟩
    have hut : u + t = 1 := by omega
    have hct : cK l (k + 1) t = cK l k t + 1 := by rw [cK_succ hkl, if_pos ht]
    have hcu : cK l (k + 1) u = cK l k u := by rw [cK_succ hkl, if_neg (by omega)]; rfl
    have hnn : ∀ j : Nat, j < 2 → 0 ≤ vs.getD j 0 := fun j hj => by
      rw [List.getD_eq_getElem?_getD, List.getElem?_eq_getElem (by omega)]
      exact hpos _ _
    have htu : ∀ a b : Nat, a + b = 1 → (a = t ∧ b = u) ∨ (a = u ∧ b = t) := fun a b h => by omega
    have nlt : ∀ (j : Nat) (m : Nat), nthS l j m < k ↔ m < cK l k j := fun j m => nth_lt l j m k (by omega)
    have nat_ : ∀ m, cK l k t = m → nthS l t m = k := fun m h => by
      have := nth_at hkl (m := m) (by rw [ht]; exact h)
      rwa [ht] at this
    have hcast : (1 - (t : Int)) = (u : Int) := by omega
    generalize hst : playS 2 vs l k = st at I F ⊢
    have ot := I.out t u hu
    have stt := I.step t u hu
    have so := F.out
    have ss := F.step
    have sx := F.x
    unfold goS
    rw [show l[k].toNat = t by omega, ot]
    have et : turnS 2 vs st t = ticketS vs st t := rfl
    by_cases c3 : 3 ≤ cK l k t
    · have hge : ¬ (if nthS l u 1 < nthS l t 1 then vs.getD u 0 else vs.getD t 0) < 0 := by
        have h1 := hnn u (by omega)
        have h2 := hnn t (by omega)
        split <;> omega
      rw [if_pos c3, if_neg hge]
      refine ⟨fun a b h => ?_, fun a b h => ?_, fun a b h h3 => ?_, fun a b h => ?_, fun a b h h3 => ?_⟩
      · rw [I.step a b h]
        rcases htu a b h with ⟨rfl, rfl⟩ | ⟨rfl, rfl⟩
        · rw [hct, if_neg (by omega), if_neg (by omega), if_neg (by omega), if_neg (by omega)]
        · rw [hcu]
      · rw [I.out a b h]
        rcases htu a b h with ⟨rfl, rfl⟩ | ⟨rfl, rfl⟩
        · rw [hct, if_pos c3, if_pos (show 3 ≤ cK l k a + 1 by omega)]
        · rw [hcu]
      · rcases htu a b h with ⟨rfl, rfl⟩ | ⟨rfl, rfl⟩
        · exact I.x a b h (by omega)
        · rw [hcu] at h3; exact I.x a b h h3
      · rw [I.count a b h]
        rcases htu a b h with ⟨rfl, rfl⟩ | ⟨rfl, rfl⟩
        · rw [hct, hcu, if_pos (show 2 ≤ cK l k a by omega), if_pos (show 2 ≤ cK l k a + 1 by omega)]
        · rw [hct, hcu, if_pos (show 2 ≤ cK l k b by omega), if_pos (show 2 ≤ cK l k b + 1 by omega)]
      · rcases htu a b h with ⟨rfl, rfl⟩ | ⟨rfl, rfl⟩
        · exact I.D a b h (by omega)
        · rw [hcu] at h3; exact I.D a b h h3
    · rw [if_neg c3, if_pos (by decide), et]
      unfold ticketS
      rw [stt]
      by_cases c0 : cK l k t = 0
      · rw [if_pos c0, if_pos rfl]
        unfold ownS
        refine ⟨fun a b h => ?_, fun a b h => ?_, fun a b h h3 => ?_, fun a b h => ?_, fun a b h h3 => ?_⟩
        · dsimp only
          rw [getD_set (by omega), I.step a b h]
          rcases htu a b h with ⟨rfl, rfl⟩ | ⟨rfl, rfl⟩
          · rw [if_pos rfl, hct, c0]; rfl
          · rw [if_neg (by omega), hcu]
        · dsimp only
          rw [I.out a b h]
          rcases htu a b h with ⟨rfl, rfl⟩ | ⟨rfl, rfl⟩
          · rw [hct, if_neg (by omega), if_neg (by omega)]
          · rw [hcu]
        · dsimp only
          rcases htu a b h with ⟨rfl, rfl⟩ | ⟨rfl, rfl⟩
          · omega
          · rw [hcu] at h3; exact I.x a b h h3
        · dsimp only
          rw [I.count a b h]
          rcases htu a b h with ⟨rfl, rfl⟩ | ⟨rfl, rfl⟩
          · rw [hct, hcu, c0]; rfl
          · rw [hct, hcu, c0]; rfl
        · dsimp only
          rw [lookM_put]
          rcases htu a b h with ⟨rfl, rfl⟩ | ⟨rfl, rfl⟩
          · rw [if_pos rfl]
          · rw [if_neg (by omega)]
            rw [hcu] at h3; exact I.D a b h h3
      · rw [if_neg c0]
        by_cases c1 : cK l k t = 1
        · rw [if_pos c1, if_neg (by decide), if_pos rfl]
          have hk1 := nat_ 1 c1
          refine ⟨fun a b h => ?_, fun a b h => ?_, fun a b h h3 => ?_, fun a b h => ?_, fun a b h h3 => ?_⟩
          · dsimp only
            rw [getD_set (by omega), I.step a b h]
            rcases htu a b h with ⟨rfl, rfl⟩ | ⟨rfl, rfl⟩
            · rw [if_pos rfl, hct, c1]; rfl
            · rw [if_neg (by omega), hcu]
          · dsimp only
            rw [I.out a b h]
            rcases htu a b h with ⟨rfl, rfl⟩ | ⟨rfl, rfl⟩
            · rw [hct, if_neg (by omega), if_neg (by omega)]
            · rw [hcu]
          · dsimp only
            rw [getD_set (by omega)]
            rcases htu a b h with ⟨rfl, rfl⟩ | ⟨rfl, rfl⟩
            · rw [if_pos rfl, I.count a b h, c1, hk1, if_neg (by decide)]
              by_cases hb : 2 ≤ cK l k b
              · rw [if_pos hb, if_pos ((nlt b 1).2 (by omega))]; rfl
              · rw [if_neg hb, if_neg (fun h => hb ((nlt b 1).1 h))]; rfl
            · rw [if_neg (by omega)]
              rw [hcu] at h3; exact I.x a b h h3
          · dsimp only
            rw [I.count a b h]
            rcases htu a b h with ⟨rfl, rfl⟩ | ⟨rfl, rfl⟩
            · rw [hct, hcu, c1, if_neg (c := 2 ≤ 1) (by decide), if_pos (c := 2 ≤ 1 + 1) (by decide)]; omega
            · rw [hct, hcu, c1, if_neg (c := 2 ≤ 1) (by decide), if_pos (c := 2 ≤ 1 + 1) (by decide)]; omega
          · dsimp only
            rcases htu a b h with ⟨rfl, rfl⟩ | ⟨rfl, rfl⟩
            · exact I.D a b h (by omega)
            · rw [hcu] at h3; exact I.D a b h h3
        · have c2 : cK l k t = 2 := by omega
          rw [if_neg c1, if_neg (by decide), if_neg (by decide), I.x t u hu (by omega)]
          have keep : ∀ v : Int, v = (if nthS l u 1 < nthS l t 1 then vs.getD u 0 else vs.getD t 0) → TickI vs l (k + 1) { st with out := st.out.set t v } := by
            intro v hvv
            refine ⟨fun a b h => ?_, fun a b h => ?_, fun a b h h3 => ?_, fun a b h => ?_, fun a b h h3 => ?_⟩
            · dsimp only
              rw [I.step a b h]
              rcases htu a b h with ⟨rfl, rfl⟩ | ⟨rfl, rfl⟩
              · rw [hct, c2]; rfl
              · rw [hcu]
            · dsimp only
              rw [getD_set (by omega), I.out a b h]
              rcases htu a b h with ⟨rfl, rfl⟩ | ⟨rfl, rfl⟩
              · rw [if_pos rfl, hct, if_pos (by omega)]; exact hvv
              · rw [if_neg (by omega), hcu]
            · dsimp only
              rcases htu a b h with ⟨rfl, rfl⟩ | ⟨rfl, rfl⟩
              · exact I.x a b h (by omega)
              · rw [hcu] at h3; exact I.x a b h h3
            · dsimp only
              rw [I.count a b h]
              rcases htu a b h with ⟨rfl, rfl⟩ | ⟨rfl, rfl⟩
              · rw [hct, hcu, c2]; rfl
              · rw [hct, hcu, c2]; rfl
            · dsimp only
              rcases htu a b h with ⟨rfl, rfl⟩ | ⟨rfl, rfl⟩
              · exact I.D a b h (by omega)
              · rw [hcu] at h3; exact I.D a b h h3
          by_cases hlt : nthS l u 1 < nthS l t 1
          · rw [if_pos hlt, if_neg (by decide)]
            refine keep _ ?_
            have hk2 : nthS l t 1 < k := (nlt t 1).2 (by omega)
            have hcu1 : 1 < cK l k u := (nlt u 1).1 (by omega)
            rw [hcast, I.D u t hut (by omega), if_pos hlt]; rfl
          · rw [if_neg hlt, if_pos rfl]
            exact keep _ (by rw [if_neg hlt])
structure NaiveI (vs l : List Int) (k : Nat) (st : AS) : Prop where
  step : ∀ t u : Nat, t + u = 1 → st.step.getD t 0 = if cK l k t = 0 then 0 else 1
  out : ∀ t u : Nat, t + u = 1 → st.out.getD t 0 = if 2 ≤ cK l k t then (if nthS l u 0 < nthS l t 1 then min (vs.getD t 0) (vs.getD u 0) else vs.getD t 0) else -1
  D : ∀ t u : Nat, t + u = 1 → lookM st.D t = if cK l k t = 0 then none else some (vs.getD t 0)
theorem naive_inv (hv : votesE 3 vs l = 0) : ∀ k, k ≤ l.length → NaiveI vs l k (playS 3 vs l k)
  | 0, _ => by
    obtain ⟨g1, g2, g3, g4, g5, hl3, hin, hpos⟩ := votes_inv hv
    have h2 : vs.length = 2 := by omega
    have hr : ∀ (z : Int) (t : Nat), t < vs.length → (List.replicate vs.length z).getD t 0 = z := fun z t ht => by
      simp [List.getD_eq_getElem?_getD, ht]
    exact ⟨fun t u h => by rw [cK_zero]; exact hr 0 t (by omega), fun t u h => by rw [cK_zero]; exact hr (-1) t (by omega), fun t u h => by rw [cK_zero]; rfl⟩
  | k + 1, hk => by
    obtain ⟨g1, g2, g3, g4, g5, hl3, hin, hpos⟩ := votes_inv hv
    have h2 : vs.length = 2 := by omega
    have hkl : k < l.length := by omega
    have I := naive_inv hv k (by omega)
    have F := playS_fit 3 vs l k (by omega)
    rw [playS_succ 3 vs hkl]
    obtain ⟨t, ht⟩ := Int.eq_ofNat_of_zero_le (hin k hkl).1
    have htn : t < 2 := by have := (hin k hkl).2; omega
    obtain ⟨u, hu⟩ : ∃ u, t + u = 1 := ⟨1 - t, by omega⟩
    have hut : u + t = 1 := by omega
    have hct : cK l (k + 1) t = cK l k t + 1 := by rw [cK_succ hkl, if_pos ht]
    have hcu : cK l (k + 1) u = cK l k u := by rw [cK_succ hkl, if_neg (by omega)]; rfl
    have hnn : ∀ j : Nat, j < 2 → 0 ≤ vs.getD j 0 := fun j hj => by
      rw [List.getD_eq_getElem?_getD, List.getElem?_eq_getElem (by omega)]
      exact hpos _ _
    have htu : ∀ a b : Nat, a + b = 1 → (a = t ∧ b = u) ∨ (a = u ∧ b = t) := fun a b h => by omega
    have nlt : ∀ (j : Nat) (m : Nat), nthS l j m < k ↔ m < cK l k j := fun j m => nth_lt l j m k (by omega)
    have nat_ : ∀ m, cK l k t = m → nthS l t m = k := fun m h => by
      have := nth_at hkl (m := m) (by rw [ht]; exact h)
      rwa [ht] at this
    have hcast : (1 - (t : Int)) = (u : Int) := by omega
    generalize hst : playS 3 vs l k = st at I F ⊢
    have ot := I.out t u hu
    have stt := I.step t u hu
    have so := F.out
    have ss := F.step
    unfold goS
    rw [show l[k].toNat = t by omega, ot]
    have et : turnS 3 vs st t = naiveS vs st t := rfl
    by_cases c2 : 2 ≤ cK l k t
    · have hge : ¬ (if nthS l u 0 < nthS l t 1 then min (vs.getD t 0) (vs.getD u 0) else vs.getD t 0) < 0 := by
        have h1 := hnn u (by omega)
        have h2 := hnn t (by omega)
        split <;> omega
      rw [if_pos c2, if_neg hge]
      refine ⟨fun a b h => ?_, fun a b h => ?_, fun a b h => ?_⟩
      · rw [I.step a b h]
        rcases htu a b h with ⟨rfl, rfl⟩ | ⟨rfl, rfl⟩
        · rw [hct, if_neg (by omega), if_neg (by omega)]
        · rw [hcu]
      · rw [I.out a b h]
        rcases htu a b h with ⟨rfl, rfl⟩ | ⟨rfl, rfl⟩
        · rw [hct, if_pos c2, if_pos (show 2 ≤ cK l k a + 1 by omega)]
        · rw [hcu]
      · rw [I.D a b h]
        rcases htu a b h with ⟨rfl, rfl⟩ | ⟨rfl, rfl⟩
        · rw [hct, if_neg (by omega), if_neg (by omega)]
        · rw [hcu]
    · rw [if_neg c2, if_pos (by decide), et]
      unfold naiveS
      rw [stt]
      by_cases c0 : cK l k t = 0
      · rw [if_pos c0, if_pos rfl]
        unfold ownS
        refine ⟨fun a b h => ?_, fun a b h => ?_, fun a b h => ?_⟩
        · dsimp only
          rw [getD_set (by omega), I.step a b h]
          rcases htu a b h with ⟨rfl, rfl⟩ | ⟨rfl, rfl⟩
          · rw [if_pos rfl, hct, c0]; rfl
          · rw [if_neg (by omega), hcu]
        · dsimp only
          rw [I.out a b h]
          rcases htu a b h with ⟨rfl, rfl⟩ | ⟨rfl, rfl⟩
          · rw [hct, if_neg (by omega), if_neg (by omega)]
          · rw [hcu]
        · dsimp only
          rw [lookM_put, I.D a b h]
          rcases htu a b h with ⟨rfl, rfl⟩ | ⟨rfl, rfl⟩
          · rw [if_pos rfl, hct, if_neg (by omega)]
          · rw [if_neg (by omega), hcu]
      · have c1 : cK l k t = 1 := by omega
        have hk1 := nat_ 1 c1
        rw [if_neg c0, if_neg (by decide), hcast, I.D u t hut]
        refine ⟨fun a b h => ?_, fun a b h => ?_, fun a b h => ?_⟩
        · dsimp only
          rw [I.step a b h]
          rcases htu a b h with ⟨rfl, rfl⟩ | ⟨rfl, rfl⟩
          · rw [hct, c1]; rfl
          · rw [hcu]
        · dsimp only
          rw [getD_set (by omega), I.out a b h]
          rcases htu a b h with ⟨rfl, rfl⟩ | ⟨rfl, rfl⟩
          · rw [if_pos rfl, hct, if_pos (show 2 ≤ cK l k a + 1 by omega), hk1]
            by_cases hb : cK l k b = 0
            · rw [if_pos hb, if_neg (fun h => by have := (nlt b 0).1 h; omega)]
            · rw [if_neg hb, if_pos ((nlt b 0).2 (by omega))]
              exact Int.min_comm _ _
          · rw [if_neg (by omega), hcu]
        · dsimp only
          rw [I.D a b h]
          rcases htu a b h with ⟨rfl, rfl⟩ | ⟨rfl, rfl⟩
          · rw [hct, if_neg (by omega), if_neg (by omega)]
          · rw [hcu]
/-- what is decided is what the document says -/
theorem play_said {algo : Int} (hv : votesE algo vs l = 0) : (playS algo vs l l.length).out = saidL algo vs l := by
  obtain ⟨g1, g2, g3, g4, g5, hl3, hin, hpos⟩ := votes_inv hv
  have F := playS_fit algo vs l l.length (Nat.le_refl _)
  have so := F.out
  have nlt : ∀ (j : Nat) (m : Nat), nthS l j m < l.length ↔ m < cK l l.length j := fun j m => nth_lt l j m l.length (Nat.le_refl _)
  have key : ∀ t, t < vs.length → (playS algo vs l l.length).out.getD t 0 = saidF algo vs l t := by
    intro t ht
    have hg : algo = 1 ∨ algo = 2 ∨ algo = 3 := by omega
    rcases hg with rfl | rfl | rfl
    · rw [(cas_inv hv l.length (Nat.le_refl _)).out t ht]
      unfold saidF
      rw [if_neg (show ¬ (1 : Int) = 2 by decide), if_pos (show (1 : Int) = 1 from rfl)]
      by_cases h : 2 ≤ cK l l.length t
      · rw [if_pos h, if_pos ((nlt t 1).2 (by omega))]
      · rw [if_neg h, if_neg (fun h' => by have := (nlt t 1).1 h'; omega)]
    · have hu : t + (1 - t) = 1 := by omega
      rw [(tick_inv hv l.length (Nat.le_refl _)).out t (1 - t) hu]
      have hc : (1 - (t : Int)) = ((1 - t : Nat) : Int) := by omega
      unfold saidF
      rw [if_pos (show (2 : Int) = 2 from rfl), if_neg (show ¬ (2 : Int) = 1 by decide), hc, Int.toNat_natCast]
      by_cases h : 3 ≤ cK l l.length t
      · rw [if_pos h, if_pos ((nlt t 2).2 (by omega)), if_pos (show (2 : Int) = 2 from rfl)]
      · rw [if_neg h, if_neg (fun h' => by have := (nlt t 2).1 h'; omega)]
    · have hu : t + (1 - t) = 1 := by omega
      rw [(naive_inv hv l.length (Nat.le_refl _)).out t (1 - t) hu]
      have hc : (1 - (t : Int)) = ((1 - t : Nat) : Int) := by omega
      unfold saidF
      rw [if_neg (show ¬ (3 : Int) = 2 by decide), if_neg (show ¬ (3 : Int) = 1 by decide), hc, Int.toNat_natCast]
      by_cases h : 2 ≤ cK l l.length t
      · rw [if_pos h, if_pos ((nlt t 1).2 (by omega)), if_neg (show ¬ (3 : Int) = 2 by decide)]
      · rw [if_neg h, if_neg (fun h' => by have := (nlt t 1).1 h'; omega)]
  apply List.ext_getElem
  · rw [so]; simp [saidL]
  · intro t h1 h2
    have := key t (by omega)
    rw [List.getD_eq_getElem?_getD, List.getElem?_eq_getElem h1] at this
    simp only [Option.getD_some] at this
    rw [this]
    simp [saidL]
end
end Go.Proofs.Ytnbgcgpkpakicaa
