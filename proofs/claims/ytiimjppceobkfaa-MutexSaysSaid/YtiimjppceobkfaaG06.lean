/- Lemmas for the walks (Mut2, Between). No condition. -/
import Derived.Test.YtiimjppceobkfaaG05
import Derived.Test.YtiimjppceobkfaaRows
import Derived.Test.YtiimjppceobkfaaG01
set_option linter.unusedSimpArgs false
set_option linter.unusedVariables false
set_option linter.unusedSectionVars false
set_option linter.unnecessarySimpa false
namespace Go.Proofs.Ytiimjppceobkfaa

theorem set_self {α : Type} {l : List α} {w : Nat} (hw : w < l.length) (d : α) : l.set w (l.getD w d) = l := by
  apply List.ext_getElem?
  intro j
  rw [List.getElem?_set]
  by_cases e : w = j
  · subst e; simp [List.getD_eq_getElem?_getD, hw]
  · rw [if_neg e]
theorem maxN_le {l : List Int} {b : Int} (h : ∀ x ∈ l, x ≤ b) (hb : 0 ≤ b) : 0 ≤ maxN l ∧ maxN l ≤ b := by
  have key : ∀ (l : List Int) (a : Int), (∀ x ∈ l, x ≤ b) → 0 ≤ a → a ≤ b → 0 ≤ l.foldl max a ∧ l.foldl max a ≤ b := by
    intro l
    induction l with
    | nil => intro a _ h1 h2; exact ⟨h1, h2⟩
    | cons x l ih =>
      intro a hx h1 h2
      have := hx x (by simp)
      exact ih (max a x) (fun y hy => hx y (by simp [hy])) (by omega) (by omega)
  exact key l 0 h (by omega) hb
theorem had_at {L turns left pos had : Int} (h : had = (turns - left) * L + pos) (hp0 : 0 ≤ pos) (hpL : pos < L) : (left ≠ 0 → 0 ≤ left → had ≠ turns * L) ∧ (left = 0 → pos = 0 → had = turns * L) ∧ had % L = pos := by
  subst h
  refine ⟨fun h1 h2 h => ?_, fun h1 h2 => by subst h1 h2; simp, ?_⟩
  · rw [Int.sub_mul] at h
    have h3 : 1 * L ≤ left * L := Int.mul_le_mul_of_nonneg_right (by omega) (by omega)
    omega
  · rw [Int.add_comm, Int.add_mul_emod_self_right, Int.emod_eq_of_lt hp0 hpL]
theorem had_end {L turns left pos had : Int} (h : had = (turns - left) * L + pos) (hp : pos + 1 = L) : had + 1 = (turns - (left - 1)) * L + 0 := by
  rw [show turns - (left - 1) = (turns - left) + 1 by omega, Int.add_mul]; omega
section
variable {algo turns : Int} {n K : Nat} {m : Ms} {s : Rs} {w : Nat}
theorem Both.numbers (h : Both algo turns n K m s) : m.ps.map (·.number) = s.number := by
  have h1 := h.lp; have h3 := h.ln
  apply List.ext_getElem
  · simp [h1, h3]
  · intro i hi hj
    have := (h.each i (by omega)).number
    unfold Ms.at at this
    rw [List.getD_eq_getElem?_getD, List.getElem?_eq_getElem (by omega), List.getD_eq_getElem?_getD, List.getElem?_eq_getElem (by omega)] at this
    simpa using this
theorem Both.flags (h : Both algo turns n K m s) : m.ps.map (·.flag) = s.flag := by
  have h1 := h.lp; have h3 := h.lf
  apply List.ext_getElem
  · simp [h1, h3]
  · intro i hi hj
    have := (h.each i (by omega)).flag
    unfold Ms.at at this
    rw [List.getD_eq_getElem?_getD, List.getElem?_eq_getElem (by omega), List.getD_eq_getElem?_getD, List.getElem?_eq_getElem (by omega)] at this
    simpa using this
/-- nothing of one is said anew but where they stand -/
theorem Both.only (h : Both algo turns n K m s) (hw : w < n) {p : Pr} (ho : One algo turns n (K + 1) w p (s.flag.getD w false) (s.number.getD w 0) (s.had.getD w 0 + 1) (lookM s.D w).isSome) :
    Both algo turns n (K + 1) (putP m w p) (advR s w) :=
  h.put hw h.turn h.turn1 ho (set_self (by have := h.lf; omega) _).symm (set_self (by have := h.ln; omega) _).symm
end
section
variable {turns : Int} {n K : Nat} {m : Ms} {s : Rs} {w : Nat}
theorem pet_sim (hn : n = 2) (h : Both 1 turns n K m s) (hw : w < n) (hl : (m.at w).left ≠ 0) : Both 1 turns n (K + 1) (petM m w) (goR 1 turns n s w) := by
  have o := h.each w hw
  have sF := (set_self (l := s.flag) (w := w) (by have := h.lf; omega) false).symm
  have sN := (set_self (l := s.number) (w := w) (by have := h.ln; omega) 0).symm
  have hh := o.had
  have hpc : posC 1 n w (m.at w) = (m.at w).step := rfl
  have hL : lenP 1 n = 5 := rfl
  have hS : stepsN 1 = 5 := rfl
  have hO : outN 1 = 3 := rfl
  have o1 := o.step0; have o2 := o.stepN; have o3 := o.left0; have o4 := o.leftT; have o5 := o.ins; have o6 := o.num0; have o7 := o.numK
  rw [hpc, hL] at hh
  rw [hS] at o2
  rw [hO] at o5
  obtain ⟨a1, _, a3⟩ := had_at hh o1 o2
  have hgo : goR 1 turns n s w = wordR n s w ((planL 1 n w).getD (m.at w).step.toNat default) := by
    unfold goR
    rw [show ((planL 1 n w).length : Int) = 5 from rfl, if_neg (a1 hl o3), a3]
  rw [hgo]
  have hturn := h.turn
  have hturn1 := h.turn1 rfl
  have hst : (m.at w).step = 0 ∨ (m.at w).step = 1 ∨ (m.at w).step = 2 ∨ (m.at w).step = 3 ∨ (m.at w).step = 4 := by omega
  unfold petM
  rcases hst with e | e | e | e | e
  · rw [if_pos e, e]
    apply Both.put h hw hturn
    case hF => exact rfl
    case hN => exact sN
    case ht => exact (fun _ => hturn1)
    refine ⟨rfl, o.number, o6, by omega, o3, o4, by (try dsimp only); omega, by (try dsimp only); rw [hS]; omega, fun h => absurd h (by decide), ?_, fun h => absurd h hl, ?_⟩
    · rw [hh, hL, posC, if_neg (by decide)]; (try dsimp only); omega
    · rw [o5, hO, e]; (try dsimp only); rfl
  · rw [if_neg (by omega), if_pos e, e]
    apply Both.put h hw rfl
    case hF => exact sF
    case hN => exact sN
    case ht => exact (fun _ => by show 1 - (w : Int) = 0 ∨ 1 - (w : Int) = 1; omega)
    refine ⟨o.flag, o.number, o6, by omega, o3, o4, by (try dsimp only); omega, by (try dsimp only); rw [hS]; omega, fun h => absurd h (by decide), ?_, fun h => absurd h hl, ?_⟩
    · rw [hh, hL, posC, if_neg (by decide)]; (try dsimp only); omega
    · rw [o5, hO, e]; (try dsimp only); rfl
  · rw [if_neg (by omega), if_neg (by omega), if_pos e, e]
    have hw1 : (1 - (w : Int)).toNat = 1 - w := by omega
    have hf := (h.each (1 - w) (by omega)).flag
    have hword : wordR n s w ((planL 1 n w).getD (2 : Int).toNat default) = if s.flag.getD (1 - (w : Int)).toNat false = true ∧ s.turn = 1 - (w : Int) then s else advR (gateR s w true) w := rfl
    rw [hword, hw1, ← hf, ← hturn]
    rw [← hturn] at hturn1
    by_cases c : (m.at (1 - w)).flag = true ∧ ¬ m.turn = w
    · rw [if_pos c, if_pos ⟨c.1, by omega⟩]; exact h.more
    · rw [if_neg c, if_neg (fun c' => c ⟨c'.1, by omega⟩)]
      apply Both.enter h hw
      case hF => exact rfl
      case hN => exact rfl
      case hno => exact (by rw [o5, e]; rfl)
      refine ⟨o.flag, o.number, o6, by omega, o3, o4, by (try dsimp only); omega, by (try dsimp only); rw [hS]; omega, fun h => absurd h (by decide), ?_, fun h => absurd h hl, ?_⟩
      · rw [hh, hL, posC, if_neg (by decide)]; (try dsimp only); omega
      · rw [hO]; (try dsimp only); simp
  · rw [if_neg (by omega), if_neg (by omega), if_neg (by omega), if_pos e, e]
    apply Both.leave h hw
    case hF => exact rfl
    case hN => exact rfl
    case hyes => exact (by rw [o5, e]; rfl)
    refine ⟨o.flag, o.number, o6, by omega, o3, o4, by (try dsimp only); omega, by (try dsimp only); rw [hS]; omega, fun h => absurd h (by decide), ?_, fun h => absurd h hl, ?_⟩
    · rw [hh, hL, posC, if_neg (by decide)]; (try dsimp only); omega
    · rw [hO]; (try dsimp only); simp
  · rw [if_neg (by omega), if_neg (by omega), if_neg (by omega), if_neg (by omega), e]
    apply Both.put h hw hturn
    case hF => exact rfl
    case hN => exact sN
    case ht => exact (fun _ => hturn1)
    refine ⟨rfl, o.number, o6, by omega, by (try dsimp only); omega, by (try dsimp only); omega, by (try dsimp only); omega, by (try dsimp only); rw [hS]; omega, fun h => absurd h (by decide), ?_, fun _ => rfl, ?_⟩
    · rw [hL, posC, if_neg (by decide)]; exact had_end hh (by omega)
    · rw [o5, hO, e]; (try dsimp only); rfl
theorem nai_sim (h : Both 3 turns n K m s) (hw : w < n) (hl : (m.at w).left ≠ 0) : Both 3 turns n (K + 1) (naiM m w) (goR 3 turns n s w) := by
  have o := h.each w hw
  have sF := (set_self (l := s.flag) (w := w) (by have := h.lf; omega) false).symm
  have sN := (set_self (l := s.number) (w := w) (by have := h.ln; omega) 0).symm
  have hh := o.had
  have hpc : posC 3 n w (m.at w) = (m.at w).step := rfl
  have hL : lenP 3 n = 5 := rfl
  have hS : stepsN 3 = 5 := rfl
  have hO : outN 3 = 3 := rfl
  have o1 := o.step0; have o2 := o.stepN; have o3 := o.left0; have o4 := o.leftT; have o5 := o.ins; have o6 := o.num0; have o7 := o.numK
  rw [hpc, hL] at hh
  rw [hS] at o2
  rw [hO] at o5
  obtain ⟨a1, _, a3⟩ := had_at hh o1 o2
  have hgo : goR 3 turns n s w = wordR n s w ((planL 3 n w).getD (m.at w).step.toNat default) := by
    unfold goR
    rw [show ((planL 3 n w).length : Int) = 5 from rfl, if_neg (a1 hl o3), a3]
  rw [hgo]
  have hturn := h.turn
  have hst : (m.at w).step = 0 ∨ (m.at w).step = 1 ∨ (m.at w).step = 2 ∨ (m.at w).step = 3 ∨ (m.at w).step = 4 := by omega
  unfold naiM
  rcases hst with e | e | e | e | e
  · rw [if_pos e, e]
    have hword : wordR n s w ((planL 3 n w).getD (0 : Int).toNat default) = if aloneB w s.flag n = true then s else advR s w := rfl
    rw [hword, h.flags, h.lp]
    by_cases c : aloneB w s.flag n = true
    · rw [if_pos c, if_pos c]; exact h.more
    · rw [if_neg c, if_neg c]
      apply Both.only h hw
      refine ⟨o.flag, o.number, o6, by omega, o3, o4, by (try dsimp only); omega, by (try dsimp only); rw [hS]; omega, fun h => absurd h (by decide), ?_, fun h => absurd h hl, ?_⟩
      · rw [hh, hL, posC, if_neg (by decide)]; (try dsimp only); omega
      · rw [o5, hO, e]; (try dsimp only); rfl
  · rw [if_neg (by omega), if_pos e, e]
    apply Both.put h hw hturn
    case hF => exact rfl
    case hN => exact sN
    case ht => exact h.turn1
    refine ⟨rfl, o.number, o6, by omega, o3, o4, by (try dsimp only); omega, by (try dsimp only); rw [hS]; omega, fun h => absurd h (by decide), ?_, fun h => absurd h hl, ?_⟩
    · rw [hh, hL, posC, if_neg (by decide)]; (try dsimp only); omega
    · rw [o5, hO, e]; (try dsimp only); rfl
  · rw [if_neg (by omega), if_neg (by omega), if_pos e, e]
    apply Both.enter h hw
    case hF => exact rfl
    case hN => exact rfl
    case hno => exact (by rw [o5, e]; rfl)
    refine ⟨o.flag, o.number, o6, by omega, o3, o4, by (try dsimp only); omega, by (try dsimp only); rw [hS]; omega, fun h => absurd h (by decide), ?_, fun h => absurd h hl, ?_⟩
    · rw [hh, hL, posC, if_neg (by decide)]; (try dsimp only); omega
    · rw [hO]; (try dsimp only); simp
  · rw [if_neg (by omega), if_neg (by omega), if_neg (by omega), if_pos e, e]
    apply Both.leave h hw
    case hF => exact rfl
    case hN => exact rfl
    case hyes => exact (by rw [o5, e]; rfl)
    refine ⟨o.flag, o.number, o6, by omega, o3, o4, by (try dsimp only); omega, by (try dsimp only); rw [hS]; omega, fun h => absurd h (by decide), ?_, fun h => absurd h hl, ?_⟩
    · rw [hh, hL, posC, if_neg (by decide)]; (try dsimp only); omega
    · rw [hO]; (try dsimp only); simp
  · rw [if_neg (by omega), if_neg (by omega), if_neg (by omega), if_neg (by omega), e]
    apply Both.put h hw hturn
    case hF => exact rfl
    case hN => exact sN
    case ht => exact h.turn1
    refine ⟨rfl, o.number, o6, by omega, by (try dsimp only); omega, by (try dsimp only); omega, by (try dsimp only); omega, by (try dsimp only); rw [hS]; omega, fun h => absurd h (by decide), ?_, fun _ => rfl, ?_⟩
    · rw [hL, posC, if_neg (by decide)]; exact had_end hh (by omega)
    · rw [o5, hO, e]; (try dsimp only); rfl
theorem swa_sim (h : Both 4 turns n K m s) (hw : w < n) (hl : (m.at w).left ≠ 0) : Both 4 turns n (K + 1) (swaM m w) (goR 4 turns n s w) := by
  have o := h.each w hw
  have sF := (set_self (l := s.flag) (w := w) (by have := h.lf; omega) false).symm
  have sN := (set_self (l := s.number) (w := w) (by have := h.ln; omega) 0).symm
  have hh := o.had
  have hpc : posC 4 n w (m.at w) = (m.at w).step := rfl
  have hL : lenP 4 n = 4 := rfl
  have hS : stepsN 4 = 4 := rfl
  have hO : outN 4 = 2 := rfl
  have o1 := o.step0; have o2 := o.stepN; have o3 := o.left0; have o4 := o.leftT; have o5 := o.ins; have o6 := o.num0; have o7 := o.numK
  rw [hpc, hL] at hh
  rw [hS] at o2
  rw [hO] at o5
  obtain ⟨a1, _, a3⟩ := had_at hh o1 o2
  have hgo : goR 4 turns n s w = wordR n s w ((planL 4 n w).getD (m.at w).step.toNat default) := by
    unfold goR
    rw [show ((planL 4 n w).length : Int) = 4 from rfl, if_neg (a1 hl o3), a3]
  rw [hgo]
  have hturn := h.turn
  have hst : (m.at w).step = 0 ∨ (m.at w).step = 1 ∨ (m.at w).step = 2 ∨ (m.at w).step = 3 := by omega
  unfold swaM
  rcases hst with e | e | e | e
  · rw [if_pos e, e]
    have hword : wordR n s w ((planL 4 n w).getD (0 : Int).toNat default) = if ¬ s.turn = 0 then s else advR { s with turn := 1 } w := rfl
    rw [hword, hturn]
    by_cases c : ¬ s.turn = 0
    · rw [if_pos c, if_pos c]; exact h.more
    · rw [if_neg c, if_neg c]
      apply Both.put h hw rfl
      case hF => exact sF
      case hN => exact sN
      case ht => exact (fun h => absurd h (by decide))
      refine ⟨o.flag, o.number, o6, by omega, o3, o4, by (try dsimp only); omega, by (try dsimp only); rw [hS]; omega, fun h => absurd h (by decide), ?_, fun h => absurd h hl, ?_⟩
      · rw [hh, hL, posC, if_neg (by decide)]; (try dsimp only); omega
      · rw [o5, hO, e]; (try dsimp only); rfl
  · rw [if_neg (by omega), if_pos e, e]
    apply Both.enter h hw
    case hF => exact rfl
    case hN => exact rfl
    case hno => exact (by rw [o5, e]; rfl)
    refine ⟨o.flag, o.number, o6, by omega, o3, o4, by (try dsimp only); omega, by (try dsimp only); rw [hS]; omega, fun h => absurd h (by decide), ?_, fun h => absurd h hl, ?_⟩
    · rw [hh, hL, posC, if_neg (by decide)]; (try dsimp only); omega
    · rw [hO]; (try dsimp only); simp [e]
  · rw [if_neg (by omega), if_neg (by omega), if_pos e, e]
    apply Both.leave h hw
    case hF => exact rfl
    case hN => exact rfl
    case hyes => exact (by rw [o5, e]; rfl)
    refine ⟨o.flag, o.number, o6, by omega, o3, o4, by (try dsimp only); omega, by (try dsimp only); rw [hS]; omega, fun h => absurd h (by decide), ?_, fun h => absurd h hl, ?_⟩
    · rw [hh, hL, posC, if_neg (by decide)]; (try dsimp only); omega
    · rw [hO]; (try dsimp only); simp [e]
  · rw [if_neg (by omega), if_neg (by omega), if_neg (by omega), e]
    apply Both.put h hw rfl
    case hF => exact sF
    case hN => exact sN
    case ht => exact (fun h => absurd h (by decide))
    refine ⟨o.flag, o.number, o6, by omega, by (try dsimp only); omega, by (try dsimp only); omega, by (try dsimp only); omega, by (try dsimp only); rw [hS]; omega, fun h => absurd h (by decide), ?_, fun _ => rfl, ?_⟩
    · rw [hL, posC, if_neg (by decide)]; exact had_end hh (by omega)
    · rw [o5, hO, e]; (try dsimp only); rfl
theorem bak_sim (hn : n ≤ 4) (h : Both 2 turns n K m s) (hw : w < n) (hl : (m.at w).left ≠ 0) : Both 2 turns n (K + 1) (bakM m w) (goR 2 turns n s w) := by
  have o := h.each w hw
  have sF := (set_self (l := s.flag) (w := w) (by have := h.lf; omega) false).symm
  have sN := (set_self (l := s.number) (w := w) (by have := h.ln; omega) 0).symm
  have hh := o.had
  have hL : lenP 2 n = 2 * n + 4 := rfl
  have hS : stepsN 2 = 8 := rfl
  have hO : outN 2 = 6 := rfl
  have o1 := o.step0; have o2 := o.stepN; have o3 := o.left0; have o4 := o.leftT; have o5 := o.ins; have o6 := o.num0; have o7 := o.numK; have ok := o.k rfl
  rw [hL] at hh
  rw [hS] at o2
  rw [hO] at o5
  have hturn := h.turn
  have hpl := plan_len n hn w hw
  obtain ⟨q0, q1, q2, q3, q4, q5⟩ := plan_ends n hn w hw
  have hst : (m.at w).step = 0 ∨ (m.at w).step = 1 ∨ (m.at w).step = 2 ∨ (m.at w).step = 3 ∨ (m.at w).step = 4 ∨ (m.at w).step = 5 ∨ (m.at w).step = 6 ∨ (m.at w).step = 7 := by omega
  obtain ⟨pos, hpos⟩ : ∃ pos, posC 2 n w (m.at w) = pos := ⟨_, rfl⟩
  have hpos' := hpos
  unfold posC at hpos'
  rw [if_pos rfl] at hpos'
  have hrange : 0 ≤ pos ∧ pos < 2 * n + 4 := by
    rcases hst with e | e | e | e | e | e | e | e
    all_goals simp only [e] at hpos'
    all_goals simp at hpos'
    all_goals first | omega | (have := ok (by omega); unfold rkK at hpos'; split at hpos' <;> omega)
  rw [hpos] at hh
  obtain ⟨a1, _, a3⟩ := had_at hh hrange.1 hrange.2
  have hgo : goR 2 turns n s w = wordR n s w ((planL 2 n w).getD pos.toNat default) := by
    unfold goR
    rw [hpl, show ((2 * n + 4 : Nat) : Int) = 2 * (n : Int) + 4 by omega, if_neg (a1 hl o3), a3]
  rw [hgo]
  unfold bakM
  have hhad : ∀ (p : Pr), p.left = (m.at w).left → posC 2 n w p = pos + 1 → s.had.getD w 0 + 1 = (turns - p.left) * lenP 2 n + posC 2 n w p := fun p h1 h2 => by rw [hh, h2, h1, hL]; omega
  rcases hst with e | e | e | e | e | e | e | e
  · obtain rfl : 0 = pos := by rw [← hpos']; simp [e]
    rw [if_pos e, show (0 : Int).toNat = 0 from rfl, q0]
    apply Both.put h hw hturn
    case hF => exact rfl
    case hN => exact sN
    case ht => exact h.turn1
    refine ⟨rfl, o.number, o6, by omega, o3, o4, by (try dsimp only); omega, by (try dsimp only); rw [hS]; omega, fun _ h => by (try dsimp only at h ⊢); omega, hhad _ rfl (by simp [posC, e]), fun h => absurd h hl, ?_⟩
    rw [o5, hO]; simp [e]
  · obtain rfl : 1 = pos := by rw [← hpos']; simp [e]
    rw [if_neg (by omega), if_pos e, show (1 : Int).toNat = 1 from rfl, q1, h.numbers]
    have hmx := maxN_le (l := s.number) (b := K) (fun x hx => by
      obtain ⟨i, hi, rfl⟩ := List.mem_iff_getElem.1 hx
      have := (h.each i (by have := h.ln; omega)).numK
      rw [List.getD_eq_getElem?_getD, List.getElem?_eq_getElem hi] at this
      exact this) (by omega)
    apply Both.put h hw hturn
    case hF => exact sF
    case hN => exact rfl
    case ht => exact h.turn1
    refine ⟨o.flag, by (try dsimp only); omega, (by omega), by omega, o3, o4, by (try dsimp only); omega, by (try dsimp only); rw [hS]; omega, fun _ h => by (try dsimp only at h ⊢); omega, hhad _ rfl (by simp [posC, e]), fun h => absurd h hl, ?_⟩
    rw [o5, hO]; simp [e]
  · obtain rfl : 2 = pos := by rw [← hpos']; simp [e]
    rw [if_neg (by omega), if_neg (by omega), if_pos e, show (2 : Int).toNat = 2 from rfl, q2, h.lp]
    by_cases c : (n : Int) ≤ otherK 0 w
    · rw [if_pos c]
      have hn1 : n = 1 := by unfold otherK at c; split at c <;> omega
      apply Both.put h hw hturn
      case hF => exact rfl
      case hN => exact sN
      case ht => exact h.turn1
      refine ⟨rfl, o.number, o6, by omega, o3, o4, by (try dsimp only); omega, by (try dsimp only); rw [hS]; omega, fun _ h => by (try dsimp only at h ⊢); omega, hhad _ rfl (by simp [posC, hn1]), fun h => absurd h hl, ?_⟩
      rw [o5, hO]; simp [e]
    · rw [if_neg c]
      have hk0 : 0 ≤ otherK 0 w ∧ otherK 0 w < n ∧ otherK 0 w ≠ w ∧ rkK (otherK 0 w) w = 0 := by
        have hok : otherK 0 w = if w = 0 then 1 else 0 := by unfold otherK; (repeat' split) <;> omega
        rw [hok] at c ⊢
        unfold rkK
        by_cases h0 : w = 0
        · simp only [if_pos h0] at c ⊢
          subst h0
          exact ⟨by omega, by omega, by omega, by simp⟩
        · simp only [if_neg h0] at c ⊢
          exact ⟨by omega, by omega, by omega, by rw [if_pos (by omega)]⟩
      apply Both.put h hw hturn
      case hF => exact rfl
      case hN => exact sN
      case ht => exact h.turn1
      refine ⟨rfl, o.number, o6, by omega, o3, o4, by (try dsimp only); omega, by (try dsimp only); rw [hS]; omega, fun _ => fun _ => ⟨hk0.1, hk0.2.1, hk0.2.2.1⟩, hhad _ rfl (by simp [posC, e, hk0.2.2.2]), fun h => absurd h hl, ?_⟩
      rw [o5, hO]; simp [e]
  · obtain ⟨k1, k2, k3⟩ := ok (.inl e)
    obtain ⟨k, hk⟩ := Int.eq_ofNat_of_zero_le k1
    have hp : 3 + 2 * rkK k w = pos := by rw [← hpos', e, ← hk]; simp
    obtain ⟨d1, _⟩ := plan_door n hn w hw k (by omega) (by omega)
    rw [if_neg (by omega), if_neg (by omega), if_neg (by omega), if_pos e, ← hp, d1, hk]
    have hf := (h.each k (by omega)).flag
    have hword : wordR n s w ⟨.door, (k : Nat)⟩ = if s.flag.getD k false = true then s else advR s w := rfl
    rw [hword, show ((k : Nat) : Int).toNat = k by omega, hf]
    by_cases c : s.flag.getD k false = true
    · rw [if_pos c, if_pos c]; exact h.more
    · rw [if_neg c, if_neg c]
      apply Both.only h hw
      refine ⟨o.flag, o.number, o6, by omega, o3, o4, by (try dsimp only); omega, by (try dsimp only); rw [hS]; omega, fun _ h => by (try dsimp only at h ⊢); omega, hhad _ rfl ?_, fun h => absurd h hl, ?_⟩
      · rw [← hp]; simp [posC, e]; omega
      · rw [o5, hO]; simp [e]
  · obtain ⟨k1, k2, k3⟩ := ok (.inr e)
    obtain ⟨k, hk⟩ := Int.eq_ofNat_of_zero_le k1
    have hp : 4 + 2 * rkK k w = pos := by rw [← hpos', e, ← hk]; simp
    obtain ⟨_, d1⟩ := plan_door n hn w hw k (by omega) (by omega)
    rw [if_neg (by omega), if_neg (by omega), if_neg (by omega), if_neg (by omega), if_pos e, ← hp, d1, hk]
    have hf := (h.each k (by omega)).number
    have hf0 := (h.each k (by omega)).num0
    have hword : wordR n s w ⟨.first, (k : Nat)⟩ = if 0 < s.number.getD k 0 ∧ (s.number.getD k 0 < s.number.getD w 0 ∨ s.number.getD k 0 = s.number.getD w 0 ∧ (k : Int) < w) then s else advR s w := rfl
    rw [hword, show ((k : Nat) : Int).toNat = k by omega, hf, o.number, h.lp]
    by_cases c : 0 < s.number.getD k 0 ∧ (s.number.getD k 0 < s.number.getD w 0 ∨ s.number.getD k 0 = s.number.getD w 0 ∧ (k : Int) < w)
    · rw [if_pos c, if_pos ⟨by omega, c.2⟩]; exact h.more
    · rw [if_neg c, if_neg (fun c' => c ⟨by omega, c'.2⟩)]
      have hok : otherK ((k : Int) + 1) w = if (k : Int) + 1 = w then (k : Int) + 2 else (k : Int) + 1 := by unfold otherK; split <;> omega
      have hrk : rkK (otherK ((k : Int) + 1) w) w = rkK k w + 1 := by rw [hok]; unfold rkK; (repeat' split) <;> omega
      have hrn : ¬ otherK ((k : Int) + 1) w < n → rkK k w = n - 2 := by rw [hok]; unfold rkK; (repeat' split) <;> omega
      have hkr : 0 ≤ otherK ((k : Int) + 1) w ∧ otherK ((k : Int) + 1) w ≠ w := by rw [hok]; split <;> omega
      by_cases c2 : otherK ((k : Int) + 1) w < n
      · rw [if_pos c2]
        apply Both.only h hw
        refine ⟨o.flag, rfl, o6, by omega, o3, o4, by (try dsimp only); omega, by (try dsimp only); rw [hS]; omega, fun _ => fun _ => ⟨hkr.1, c2, hkr.2⟩, hhad _ rfl ?_, fun h => absurd h hl, ?_⟩
        · rw [← hp]; simp [posC, hrk]; omega
        · rw [o5, hO]; simp [e]
      · rw [if_neg c2]
        apply Both.only h hw
        refine ⟨o.flag, rfl, o6, by omega, o3, o4, by (try dsimp only); omega, by (try dsimp only); rw [hS]; omega, fun _ h => by (try dsimp only at h ⊢); omega, hhad _ rfl ?_, fun h => absurd h hl, ?_⟩
        · rw [← hp, hrn c2]; simp [posC, e]; omega
        · rw [o5, hO]; simp [e]
  · obtain rfl : 2 * (n : Int) + 1 = pos := by rw [← hpos']; simp [e]; omega
    rw [if_neg (by omega), if_neg (by omega), if_neg (by omega), if_neg (by omega), if_neg (by omega), if_pos e, show (2 * (n : Int) + 1).toNat = 2 * n + 1 by omega, q3]
    apply Both.enter h hw
    case hF => exact rfl
    case hN => exact rfl
    case hno => exact (by rw [o5, e]; rfl)
    refine ⟨o.flag, o.number, o6, by omega, o3, o4, by (try dsimp only); omega, by (try dsimp only); rw [hS]; omega, fun _ h => by (try dsimp only at h ⊢); omega, hhad _ rfl ?_, fun h => absurd h hl, ?_⟩
    · simp [posC, e]; omega
    · rw [hO]; simp [e]
  · obtain rfl : 2 * (n : Int) + 2 = pos := by rw [← hpos']; simp [e]; omega
    rw [if_neg (by omega), if_neg (by omega), if_neg (by omega), if_neg (by omega), if_neg (by omega), if_neg (by omega), if_pos e, show (2 * (n : Int) + 2).toNat = 2 * n + 2 by omega, q4]
    apply Both.leave h hw
    case hF => exact rfl
    case hN => exact rfl
    case hyes => exact (by rw [o5, e]; rfl)
    refine ⟨o.flag, o.number, o6, by omega, o3, o4, by (try dsimp only); omega, by (try dsimp only); rw [hS]; omega, fun _ h => by (try dsimp only at h ⊢); omega, hhad _ rfl ?_, fun h => absurd h hl, ?_⟩
    · simp [posC, e]; omega
    · rw [hO]; simp [e]
  · obtain rfl : 2 * (n : Int) + 3 = pos := by rw [← hpos']; simp [e]; omega
    rw [if_neg (by omega), if_neg (by omega), if_neg (by omega), if_neg (by omega), if_neg (by omega), if_neg (by omega), if_neg (by omega), show (2 * (n : Int) + 3).toNat = 2 * n + 3 by omega, q5]
    apply Both.put h hw hturn
    case hF => exact sF
    case hN => exact rfl
    case ht => exact h.turn1
    refine ⟨o.flag, rfl, by omega, by omega, by (try dsimp only); omega, by (try dsimp only); omega, by (try dsimp only); omega, by (try dsimp only); rw [hS]; omega, fun _ h => by dsimp only at h; omega, ?_, fun _ => rfl, ?_⟩
    · rw [hL]; refine (had_end hh (by omega)).trans ?_; simp [posC]
    · rw [o5, hO, e]; (try dsimp only); rfl
/-- a turn, by whichever algorithm -/
theorem go_sim {algo : Int} (hn : n ≤ 4) (ha : algo = 1 ∧ n = 2 ∨ algo = 2 ∨ algo = 3 ∨ algo = 4) (h : Both algo turns n K m s) (hw : w < n) : Both algo turns n (K + 1) (goM algo m w) (goR algo turns n s w) := by
  unfold goM
  by_cases hl : (m.at w).left = 0
  · rw [if_pos hl]
    have o := h.each w hw
    have hs := o.done hl
    have hp : posC algo n w (m.at w) = 0 := by unfold posC; rw [hs]; simp
    have hh := o.had
    have hlen : ((planL algo n w).length : Int) = lenP algo n := by
      rcases ha with ⟨rfl, _⟩ | rfl | rfl | rfl
      · rfl
      · have := plan_len n hn w hw
        rw [this]; unfold lenP; simp
      · rfl
      · rfl
    have : goR algo turns n s w = s := by
      unfold goR
      rw [if_pos]
      rw [hh, hp, hl, hlen]; simp
    rw [this]; exact h.more
  · rw [if_neg hl]
    rcases ha with ⟨rfl, h2⟩ | rfl | rfl | rfl
    · exact pet_sim h2 h hw hl
    · exact bak_sim hn h hw hl
    · exact nai_sim h hw hl
    · exact swa_sim h hw hl
end
theorem alone_succ (w : Nat) (fs : List Bool) (j : Nat) : aloneB w fs (j + 1) = (aloneB w fs j || (!decide (j = w) && fs.getD j false)) := by
  unfold aloneB; rw [List.range_succ, List.any_append]; simp
theorem alone_at {w : Nat} {fs : List Bool} {j n : Nat} (hj : j < n) (h1 : j ≠ w) (h2 : fs.getD j false = true) : aloneB w fs n = true := by
  unfold aloneB
  rw [List.any_eq_true]
  exact ⟨j, List.mem_range.2 hj, by simp [h1]; simpa using h2⟩
end Go.Proofs.Ytiimjppceobkfaa

namespace Go.Proofs.Ytiimjppceobkfaa
open Go.RowKit
theorem between_any (a b c : Int) (w : World) :
    Calls Try.prog 33 #[.int .i64 a, .int .i64 b, .int .i64 c] w fun e w' => e = .returned (.bool (decide (b ≤ a) && decide (a ≤ c))) ∧ w = w' := by
  by_cases h1 : b ≤ a
  · by_cases h2 : a ≤ c
    · go_enter Try.func33, Try.ntmps33
      go_wp2
      go_ret
      simp [h1, h2]
    · go_enter Try.func33, Try.ntmps33
      go_wp2
      go_ret
      simp; omega
  · have h1' : decide (b ≤ a) = false := by simpa using h1
    go_enter Try.func33, Try.ntmps33
    go_wp2
    go_ret
    simp

end Go.Proofs.Ytiimjppceobkfaa
