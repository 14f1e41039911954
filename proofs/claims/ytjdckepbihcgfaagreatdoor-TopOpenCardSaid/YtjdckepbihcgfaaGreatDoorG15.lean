/- Lemmas for the walks (Seq3, Th4L, Idx, Tk1, CtCall, Tk2). No condition. -/
import Derived.Test.YtjdckepbihcgfaaGreatDoorG14
import Derived.Test.YtjdckepbihcgfaaGreatDoorG06
import Derived.Test.YtjdckepbihcgfaaGreatDoorG05
import Derived.Test.YtjdckepbihcgfaaGreatDoorG04
import Derived.Test.YtjdckepbihcgfaaGreatDoorG08
import Derived.Test.YtjdckepbihcgfaaGreatDoorG12
import Derived.Test.YtjdckepbihcgfaaGreatDoorG07
set_option linter.unusedSimpArgs false
set_option linter.unusedVariables false
set_option linter.unusedSectionVars false
set_option linter.unnecessarySimpa false
namespace Go.Proofs.YtjdckepbihcgfaaGreatDoor

def openN (cs : List Cl) : Nat := cs.countP fun c => decide (c.to = -1)
/-- what comes later: calls stay, those that were answered as they are -/
structure Later (m : Int) (cs ds : List Cl) : Prop where
  len : cs.length ≤ ds.length
  from_ : ∀ q, q < cs.length → (ds.getD q default).from_ = (cs.getD q default).from_
  done : ∀ q, q < cs.length → (cs.getD q default).to ≠ -1 → (ds.getD q default).to = (cs.getD q default).to
  opn : ∀ q, q < cs.length → (cs.getD q default).to = -1 → (ds.getD q default).to = -1 ∨ m ≤ (ds.getD q default).to
  new : ∀ q, cs.length ≤ q → q < ds.length → m ≤ (ds.getD q default).from_
theorem Later.refl (m : Int) (cs : List Cl) : Later m cs cs := ⟨Nat.le_refl _, fun _ _ => rfl, fun _ _ _ => rfl, fun _ _ h => .inl h, fun q h1 h2 => by omega⟩
theorem later_step {ts : List Int} {m i : Int} {cs ds : List Cl} (x : Ev) (hm : m ≤ i) (h : Later m cs ds) : Later m cs (evR ts ds i x).2 := by
  unfold evR
  by_cases hf : formBad ts x = true
  · rw [if_pos hf]; exact h
  · rw [if_neg hf]
    by_cases hk : x.kind = 0
    · rw [if_pos hk]
      split
      · exact h
      · split
        · obtain ⟨p, hp, hpl, hpw, hpt⟩ := openTo_at (cs := ds) (who := x.who) ds.length (by omega)
          rw [show (openTo ds x.who ds.length).toNat = p by omega]
          dsimp only
          have hgp : ∀ q c, (ds.set p c).getD q default = if p = q then c else ds.getD q default := fun q c => by
            rw [List.getD_eq_getElem?_getD, List.getElem?_set]
            split
            · rename_i e; subst e; simp [hpl]
            · rw [← List.getD_eq_getElem?_getD]
          refine ⟨by rw [List.length_set]; exact h.len, fun q hq => ?_, fun q hq ht => ?_, fun q hq ht => ?_, fun q h1 h2 => ?_⟩
          · rw [hgp]
            split
            · rename_i e; subst e; exact h.from_ _ hq
            · exact h.from_ q hq
          · rw [hgp]
            split
            · rename_i e; subst e
              have := h.done _ hq ht
              rw [hpt] at this
              exact absurd this.symm ht
            · exact h.done q hq ht
          · rw [hgp]
            split
            · exact .inr hm
            · exact h.opn q hq ht
          · rw [hgp]
            rw [List.length_set] at h2
            split
            · rename_i e; subst e; exact h.new _ h1 h2
            · exact h.new q h1 h2
        · exact h
    · rw [if_neg hk]
      split
      · exact h
      · split
        · exact h
        · dsimp only
          have hga : ∀ q (c : Cl), q < ds.length → (ds ++ [c]).getD q default = ds.getD q default := fun q c hq => by
            rw [List.getD_eq_getElem?_getD, List.getElem?_append_left hq, ← List.getD_eq_getElem?_getD]
          have hl := h.len
          refine ⟨by rw [List.length_append]; omega, fun q hq => by rw [hga q _ (by omega)]; exact h.from_ q hq, fun q hq ht => by rw [hga q _ (by omega)]; exact h.done q hq ht, fun q hq ht => by rw [hga q _ (by omega)]; exact h.opn q hq ht, fun q h1 h2 => ?_⟩
          rw [List.length_append, List.length_singleton] at h2
          by_cases e : q < ds.length
          · rw [hga q _ e]; exact h.new q h1 e
          · obtain rfl : q = ds.length := by omega
            simp [List.getD_eq_getElem?_getD, hm]
theorem later_st (ts : List Int) (l : List Ev) (m : Nat) : ∀ d : Nat, Later (m : Int) (stR ts l m) (stR ts l (m + d))
  | 0 => Later.refl _ _
  | d + 1 => by
    have := later_step (ts := ts) (i := ((m + d : Nat) : Int)) (l.getD (m + d) default) (by omega) (later_st ts l m d)
    rw [show m + (d + 1) = (m + d) + 1 by omega, stR]
    exact this
/-- at a place: had anybody called, and is nobody open -/
def calmAt (cs : List Cl) (a : Int) : Bool := (cs.any fun y => decide (y.from_ ≤ a)) && !(cs.any fun y => decide (y.from_ ≤ a) && (decide (y.to = -1) || decide (a < y.to)))
def calmTo (cs : List Cl) (k : Nat) : Nat := (List.range k).countP fun a : Nat => calmAt cs (a : Int)
def calmN (cs : List Cl) (i : Nat) : Nat := calmTo cs (cs.getD i default).from_.toNat
def calmL (cs : List Cl) : List Int := (List.range cs.length).map fun i => (calmN cs i : Int)
theorem calmTo_succ (cs : List Cl) (k : Nat) : calmTo cs (k + 1) = calmTo cs k + (if calmAt cs k = true then 1 else 0) := by
  unfold calmTo
  rw [List.range_succ, List.countP_append, List.countP_cons, List.countP_nil]
  simp
theorem calmTo_mono (cs : List Cl) {a b : Nat} (h : a ≤ b) : calmTo cs a ≤ calmTo cs b := by
  induction h with
  | refl => exact Nat.le_refl _
  | step _ ih => rw [calmTo_succ]; omega
theorem calmTo_lt (cs : List Cl) : ∀ {a b : Nat}, calmTo cs a < calmTo cs b → ∃ c, a ≤ c ∧ c < b ∧ calmAt cs c = true
  | a, 0, h => by simp [calmTo] at h
  | a, b + 1, h => by
    rw [calmTo_succ] at h
    by_cases hc : calmAt cs b = true
    · by_cases hab : a ≤ b
      · exact ⟨b, hab, by omega, hc⟩
      · have := calmTo_mono cs (show b + 1 ≤ a by omega)
        rw [calmTo_succ] at this
        omega
    · rw [if_neg hc] at h
      obtain ⟨c, h1, h2, h3⟩ := calmTo_lt cs (a := a) (b := b) (by omega)
      exact ⟨c, h1, by omega, h3⟩
theorem calmAt_false {cs : List Cl} {a : Int} {q : Nat} (hq : q < cs.length) (h1 : (cs.getD q default).from_ ≤ a) (h2 : (cs.getD q default).to = -1 ∨ a < (cs.getD q default).to) : calmAt cs a = false := by
  unfold calmAt
  have : (cs.any fun y => decide (y.from_ ≤ a) && (decide (y.to = -1) || decide (a < y.to))) = true := by
    rw [List.any_eq_true]
    rw [show cs.getD q default = cs[q] by simp [hq]] at h1 h2
    exact ⟨cs[q], List.getElem_mem hq, by simp [h1, h2]⟩
  rw [this]; simp
theorem openN_pos {cs : List Cl} : 0 < openN cs ↔ ∃ q, q < cs.length ∧ (cs.getD q default).to = -1 := by
  unfold openN
  rw [List.countP_pos_iff]
  constructor
  · rintro ⟨c, hc, h⟩
    obtain ⟨q, hq, rfl⟩ := List.mem_iff_getElem.1 hc
    exact ⟨q, hq, by simpa [hq] using h⟩
  · rintro ⟨q, hq, h⟩
    exact ⟨cs[q], List.getElem_mem hq, by simpa [hq] using h⟩
/-- at a place behind which as many are open -/
theorem calm_open {ts : List Int} {l : List Ev} {k : Nat} (hk : k < l.length) (hne : 0 < (stR ts l (k + 1)).length) (hfr : ((stR ts l (k + 1)).getD 0 default).from_ ≤ k) :
    calmAt (stR ts l l.length) k = decide (openN (stR ts l (k + 1)) = 0) := by
  obtain ⟨d, hd⟩ : ∃ d, l.length = (k + 1) + d := ⟨l.length - (k + 1), by omega⟩
  have hL := later_st ts l (k + 1) d
  rw [← hd] at hL
  have hok := clsOk_st ts l (k + 1)
  have hto := clsTo_st ts l (k + 1)
  generalize stR ts l (k + 1) = cs at *
  generalize stR ts l l.length = ds at *
  have hl := hL.len
  by_cases ho : openN cs = 0
  · rw [decide_eq_true ho]
    unfold calmAt
    have h1 : (ds.any fun y => decide (y.from_ ≤ (k : Int))) = true := by
      rw [List.any_eq_true]
      refine ⟨ds[0]'(by omega), List.getElem_mem _, ?_⟩
      have := hL.from_ 0 hne
      rw [show ds.getD 0 default = ds[0]'(by omega) by simp [show 0 < ds.length by omega]] at this
      rw [this]; exact decide_eq_true hfr
    have h2 : (ds.any fun y => decide (y.from_ ≤ (k : Int)) && (decide (y.to = -1) || decide ((k : Int) < y.to))) = false := by
      rw [List.any_eq_false]
      intro y hy
      obtain ⟨q, hq, rfl⟩ := List.mem_iff_getElem.1 hy
      have hg : ds.getD q default = ds[q] := by simp [hq]
      by_cases e : q < cs.length
      · have hne1 : (cs.getD q default).to ≠ -1 := fun ht => by have := openN_pos.2 ⟨q, e, ht⟩; omega
        have hd1 := hL.done q e hne1
        have hg2 : cs.getD q default = cs[q] := by simp [e]
        rw [hg, hg2] at hd1
        rw [hg2] at hne1
        rcases hto.to q e with h3 | h3
        · exact absurd h3 hne1
        · rw [hd1]
          have h5 : ¬ (k : Int) < cs[q].to := by omega
          simp [hne1, h5]
      · have hn := hL.new q (by omega) hq
        rw [hg] at hn
        have h5 : ¬ ds[q].from_ ≤ (k : Int) := by omega
        simp [h5]
    rw [h1, h2]; rfl
  · rw [decide_eq_false ho]
    obtain ⟨q, hq, ht⟩ := openN_pos.1 (show 0 < openN cs by omega)
    have hg2 : cs.getD q default = cs[q] := by simp [hq]
    refine calmAt_false (q := q) (by omega) ?_ ?_
    · rw [hL.from_ q hq, hg2]
      have := (hok.each q hq).place.2
      omega
    · rcases hL.opn q hq ht with h | h
      · exact .inl h
      · exact .inr (by omega)
/-! event by event -/
def epStep (st : List Int × Int × Int) (v : Ev) : List Int × Int × Int :=
  if v.kind = 0 then (st.1, st.2.1 - 1, if st.2.1 - 1 = 0 then st.2.2 + 1 else st.2.2) else (st.1 ++ [st.2.2], st.2.1 + 1, st.2.2)
def epTo (l : List Ev) (k : Nat) : List Int × Int × Int := (l.take k).foldl epStep ([], 0, 0)
theorem epTo_succ {l : List Ev} {k : Nat} (h : k < l.length) : epTo l (k + 1) = epStep (epTo l k) l[k] := by
  unfold epTo
  rw [List.take_succ_eq_append_getElem h, List.foldl_append]; rfl
theorem evR_good {ts : List Int} {cs : List Cl} {i : Int} {x : Ev} (h : (evR ts cs i x).1 = 0) :
    (x.kind = 0 ∧ ∃ m, m < cs.length ∧ (cs.getD m default).to = -1 ∧ (evR ts cs i x).2 = cs.set m { cs.getD m default with res := x.value, to := i }) ∨ (x.kind ≠ 0 ∧ (evR ts cs i x).2 = cs ++ [⟨x.who, x.thing, x.kind, x.value, 0, i, -1⟩]) := by
  unfold evR at h ⊢
  by_cases hf : formBad ts x = true
  · rw [if_pos hf] at h; cases h
  · rw [if_neg hf] at h ⊢
    by_cases hk : x.kind = 0
    · rw [if_pos hk] at h ⊢
      split at h
      · cases h
      · rename_i hz
        rw [if_neg hz]
        split at h
        · rename_i hc
          rw [if_pos hc]
          obtain ⟨p, hp, hpl, _, hpt⟩ := openTo_at (cs := cs) (who := x.who) cs.length (by omega)
          exact .inl ⟨hk, p, hpl, hpt, by rw [show (openTo cs x.who cs.length).toNat = p by omega]⟩
        · cases h
    · rw [if_neg hk] at h ⊢
      split at h
      · cases h
      · rename_i hb
        rw [if_neg hb]
        split at h
        · cases h
        · rename_i ho
          rw [if_neg ho]
          exact .inr ⟨hk, rfl⟩
theorem openN_set {c : Cl} (hc : c.to ≠ -1) : ∀ {cs : List Cl} {m : Nat}, m < cs.length → (cs.getD m default).to = -1 → openN (cs.set m c) + 1 = openN cs
  | [], _, h, _ => by simp at h
  | x :: cs, 0, _, h => by
    have h' : x.to = -1 := by simpa using h
    unfold openN
    rw [List.set_cons_zero, List.countP_cons, List.countP_cons]
    simp [h', hc]
  | x :: cs, m + 1, hm, h => by
    have ih := openN_set hc (cs := cs) (m := m) (by simpa using hm) (by simpa using h)
    unfold openN at ih ⊢
    rw [List.set_cons_succ, List.countP_cons, List.countP_cons]
    omega
theorem openN_push {cs : List Cl} {c : Cl} (hc : c.to = -1) : openN (cs ++ [c]) = openN cs + 1 := by
  unfold openN
  rw [List.countP_append, List.countP_cons, List.countP_nil]
  simp [hc]
theorem ep_inv {ts : List Int} {l : List Ev} (hv : ∀ j, j < l.length → erR ts l j = 0) : ∀ k, k ≤ l.length →
    (epTo l k).1.length = (stR ts l k).length ∧ (epTo l k).2.1 = openN (stR ts l k) ∧ (epTo l k).2.2 = calmTo (stR ts l l.length) k ∧ ∀ q, q < (stR ts l k).length → (epTo l k).1.getD q 0 = calmTo (stR ts l l.length) ((stR ts l k).getD q default).from_.toNat
  | 0, _ => by
    refine ⟨rfl, rfl, by simp [epTo, calmTo], fun q hq => ?_⟩
    simp [stR] at hq
  | k + 1, hk => by
    obtain ⟨i1, i2, i3, i4⟩ := ep_inv hv k (by omega)
    have hkl : k < l.length := by omega
    have hg : l.getD k default = l[k] := by simp [hkl]
    have he := hv k hkl
    unfold erR at he
    have hst : stR ts l (k + 1) = (evR ts (stR ts l k) k (l.getD k default)).2 := rfl
    have hok := clsOk_st ts l (k + 1)
    have hcalm := fun h1 h2 => calm_open (ts := ts) (l := l) hkl h1 h2
    rw [epTo_succ hkl, calmTo_succ]
    rw [hg] at he hst
    have hfirst : 0 < (stR ts l (k + 1)).length → ((stR ts l (k + 1)).getD 0 default).from_ ≤ (k : Int) := fun h0 => by
      have := (hok.each 0 h0).place.2
      rw [show (stR ts l (k + 1)).getD 0 default = (stR ts l (k + 1))[0] by simp [h0]]
      omega
    generalize stR ts l l.length = F at *
    rcases evR_good he with ⟨h1, m, hm, hmt, h2⟩ | ⟨h1, h2⟩
    · rw [h2] at hst
      have hlen : (stR ts l (k + 1)).length = (stR ts l k).length := by rw [hst, List.length_set]
      have hop := openN_set (c := { (stR ts l k).getD m default with res := l[k].value, to := (k : Int) }) (by dsimp only; omega) hm hmt
      rw [← hst] at hop
      have hc := hcalm (by omega) (hfirst (by omega))
      have e1 : epStep (epTo l k) l[k] = ((epTo l k).1, (epTo l k).2.1 - 1, if (epTo l k).2.1 - 1 = 0 then (epTo l k).2.2 + 1 else (epTo l k).2.2) := by unfold epStep; rw [if_pos h1]
      rw [e1]
      refine ⟨by rw [hlen]; exact i1, by dsimp only; omega, ?_, fun q hq => ?_⟩
      · dsimp only
        rw [hc, i3]
        by_cases ho : openN (stR ts l (k + 1)) = 0
        · rw [if_pos (by omega), decide_eq_true ho]; simp
        · rw [if_neg (by omega), decide_eq_false ho]; simp
      · dsimp only
        rw [hlen] at hq
        rw [i4 q hq, hst, List.getD_eq_getElem?_getD, List.getD_eq_getElem?_getD, List.getElem?_set]
        split
        · rename_i e
          subst e
          simp [List.getD_eq_getElem?_getD, hm]
        · rfl
    · rw [h2] at hst
      have hlen : (stR ts l (k + 1)).length = (stR ts l k).length + 1 := by rw [hst, List.length_append]; rfl
      have hop := openN_push (cs := stR ts l k) (c := ⟨l[k].who, l[k].thing, l[k].kind, l[k].value, 0, (k : Int), -1⟩) rfl
      rw [← hst] at hop
      have hc := hcalm (by omega) (hfirst (by omega))
      have e1 : epStep (epTo l k) l[k] = ((epTo l k).1 ++ [(epTo l k).2.2], (epTo l k).2.1 + 1, (epTo l k).2.2) := by unfold epStep; rw [if_neg h1]
      rw [e1]
      refine ⟨by dsimp only; rw [List.length_append, i1, hlen]; rfl, by dsimp only; omega, ?_, fun q hq => ?_⟩
      · dsimp only
        rw [hc, decide_eq_false (by omega), i3]; simp
      · dsimp only
        rw [hst]
        by_cases e : q < (stR ts l k).length
        · have := i4 q e
          rw [List.getD_eq_getElem?_getD] at this ⊢
          rw [List.getElem?_append_left (by omega), this, List.getD_eq_getElem?_getD, List.getD_eq_getElem?_getD, List.getElem?_append_left e]
        · obtain rfl : q = (stR ts l k).length := by omega
          rw [List.getD_eq_getElem?_getD, List.getElem?_append_right (by omega), i1]
          simp [List.getD_eq_getElem?_getD, i3]
/-- both count alike -/
theorem epochs_calm {ts : List Int} {l : List Ev} (hv : ∀ j, j < l.length → erR ts l j = 0) : (epTo l l.length).1 = calmL (stR ts l l.length) := by
  obtain ⟨i1, _, _, i4⟩ := ep_inv hv l.length (Nat.le_refl _)
  apply List.ext_getElem
  · rw [i1]; simp [calmL]
  · intro q h1 h2
    have := i4 q (by omega)
    rw [show (epTo l l.length).1.getD q 0 = (epTo l l.length).1[q] by simp [h1]] at this
    rw [this]
    simp [calmL, calmN]
/-! the relation -/
def calmP (cs : List Cl) (i j : Nat) : Bool := decide (calmN cs i < calmN cs j)
def relCalm (cs : List Cl) : Nat → Nat := relN (calmP cs) cs.length
theorem relCalm_done (cs : List Cl) : relN (fun i j => (fun _ _ => false) i j || calmP cs i j) cs.length = relCalm cs := by simp [relCalm]
theorem relCalm_16 (cs : List Cl) (h : cs.length ≤ 16) (i : Nat) : relCalm cs i < 65536 := relN_lt _ h i
end Go.Proofs.YtjdckepbihcgfaaGreatDoor

namespace Go.Proofs.YtjdckepbihcgfaaGreatDoor
open Go.RowKit
set_option linter.unusedSectionVars false

instance : Inhabited Hd := ⟨⟨none, 0, 0⟩⟩
section
variable {P : Program} {C : Ctx} {S : List Ent} {α : Type} {enc : α → List Value} {M e g c j off s : Nat} {ls : List α} {x : α} {v : Value}
end
end Go.Proofs.YtjdckepbihcgfaaGreatDoor

namespace Go.Proofs.YtjdckepbihcgfaaGreatDoor

def idxF {α : Type} (p : α → Bool) (l : List α) : Int := if l.any p = true then (l.findIdx p : Int) else -1
theorem any_take_not {α : Type} {p : α → Bool} {l : List α} {k : Nat} (hk : k < l.length) (h1 : (l.take k).any p = false) (h2 : p l[k] = false) : (l.take (k + 1)).any p = false := by
  rw [List.take_succ_eq_append_getElem hk, List.any_append, h1]; simp [h2]
theorem idxF_at {α : Type} {p : α → Bool} {l : List α} {k : Nat} (hk : k < l.length) (h1 : (l.take k).any p = false) (h2 : p l[k] = true) : idxF p l = (k : Int) := by
  have hany : l.any p = true := List.any_eq_true.2 ⟨_, List.getElem_mem hk, h2⟩
  unfold idxF
  rw [if_pos hany]
  congr 1
  rw [List.findIdx_eq hk]
  refine ⟨h2, fun j hj => ?_⟩
  rw [List.any_eq_false] at h1
  have hm : l[j] ∈ l.take k := by
    rw [List.mem_take_iff_getElem]
    exact ⟨j, by omega, rfl⟩
  exact Bool.eq_false_iff.2 (h1 _ hm)
theorem idxF_no {α : Type} {p : α → Bool} {l : List α} (h : l.any p = false) : idxF p l = -1 := by
  unfold idxF; rw [if_neg (by rw [h]; decide)]
theorem idxF_any {α : Type} (p : α → Bool) (l : List α) : decide (0 ≤ idxF p l) = l.any p := by
  unfold idxF
  split
  · rename_i h; rw [h]; simp
  · rename_i h; rw [Bool.eq_false_iff.2 h]; decide
end Go.Proofs.YtjdckepbihcgfaaGreatDoor

namespace Go.Proofs.YtjdckepbihcgfaaGreatDoor
open Go.RowKit

/-- the keys that a walk over the calls has seen -/
def hasM (cs : List Cl) : Nat → List (Int × Bool)
  | 0 => []
  | k + 1 => if (clK cs k).to = -1 then hasM cs k else putM (hasM cs k) (clK cs k).res true
def hasK (cs : List Cl) (n : Int) : Nat → Bool
  | 0 => false
  | k + 1 => hasK cs n k || (decide ((clK cs k).to ≠ -1) && decide ((clK cs k).res = n))
theorem hasM_look (cs : List Cl) (n : Int) : ∀ k, (lookM (hasM cs k) n).getD false = hasK cs n k
  | 0 => rfl
  | k + 1 => by
    have ih := hasM_look cs n k
    rw [hasM, hasK]
    split
    · rename_i e; rw [ih]; simp [e]
    · rename_i e
      rw [lookM_put]
      by_cases h : n = (clK cs k).res
      · simp [h, e]
      · rw [if_neg h, ih]
        have : ¬ (clK cs k).res = n := fun q => h q.symm
        simp [this]
def mostK (cs : List Cl) : Nat → Int
  | 0 => -1
  | k + 1 => if (clK cs k).to = -1 then mostK cs k else max (mostK cs k) (clK cs k).res
def pendK (cs : List Cl) (k : Nat) : List Nat := (List.range k).filter fun i => decide ((clK cs i).to = -1)
theorem pendK_succ (cs : List Cl) (k : Nat) : pendK cs (k + 1) = if (clK cs k).to = -1 then pendK cs k ++ [k] else pendK cs k := by
  unfold pendK
  rw [List.range_succ, List.filter_append]
  split <;> rename_i h <;> simp [h]
theorem pendK_len (cs : List Cl) (k : Nat) : (pendK cs k).length ≤ k := by
  unfold pendK
  exact Nat.le_trans (List.length_filter_le _ _) (by simp)
theorem pendK_lt {cs : List Cl} {k i : Nat} (h : i ∈ pendK cs k) : i < k ∧ (clK cs i).to = -1 := by
  unfold pendK at h
  rw [List.mem_filter, List.mem_range] at h
  exact ⟨h.1, of_decide_eq_true h.2⟩
def numT (cs : List Cl) : Nat := (mostK cs cs.length + 1).toNat
def hasT (cs : List Cl) (n : Nat) : Bool := hasK cs (n : Int) cs.length
def missK (cs : List Cl) (n : Nat) : List Nat := (List.range n).filter fun n => !hasT cs n
theorem missK_succ (cs : List Cl) (k : Nat) : missK cs (k + 1) = if hasT cs k = true then missK cs k else missK cs k ++ [k] := by
  unfold missK
  rw [List.range_succ, List.filter_append]
  cases h : hasT cs k <;> simp [h]
theorem missK_len (cs : List Cl) (k : Nat) : (missK cs k).length ≤ k := by
  unfold missK
  exact Nat.le_trans (List.length_filter_le _ _) (by simp)
def pendT (cs : List Cl) : List Nat := pendK cs cs.length
def missT (cs : List Cl) : List Nat := missK cs (numT cs)
/-- is x behind the number n, and ahead of call i -/
def lateB (cs : List Cl) (i n : Nat) (x : Cl) : Bool := decide (x.to ≠ -1) && (decide (x.to < (clK cs i).from_) && decide ((n : Int) ≤ x.res))
def canT (cs : List Cl) (i n : Nat) : Bool := !cs.any (lateB cs i n)
def twB (cs : List Cl) (i k : Nat) : Bool := decide ((clK cs i).to ≠ -1) && (decide ((clK cs k).to ≠ -1) && decide ((clK cs i).res = (clK cs k).res))
def ordB (cs : List Cl) (i k : Nat) : Bool := decide ((clK cs i).to ≠ -1) && (decide ((clK cs k).to ≠ -1) && (decide ((clK cs i).to < (clK cs k).from_) && decide ((clK cs k).res < (clK cs i).res)))
def gapB (cs : List Cl) (k : Nat) : Bool := decide ((pendT cs).length ≤ k) || !canT cs ((pendT cs).getD k 0) ((missT cs).getD k 0)
def checkT (cs : List Cl) : Bd :=
  match firstP cs.length (fun i => i) (twB cs) with
  | some (i, k) => ⟨2, i, k⟩
  | none => match firstP cs.length (fun _ => cs.length) (ordB cs) with
    | some (i, k) => ⟨6, i, k⟩
    | none => match firstN (missT cs).length (gapB cs) with
      | some k => ⟨8, ((missT cs).getD k 0 : Nat), 0⟩
      | none => ⟨0, 0, 0⟩
/-! the list of who has which number -/
/-- what is so of calls of tickets -/
structure TkOk (cs : List Cl) : Prop where
  few : cs.length ≤ 200
  res : ∀ k, k < cs.length → (clK cs k).to ≠ -1 → 0 ≤ (clK cs k).res ∧ (clK cs k).res ≤ 1000
  to : ∀ k, k < cs.length → (clK cs k).to = -1 ∨ 0 ≤ (clK cs k).to
  ne : ∀ p q, p < cs.length → q < cs.length → (clK cs p).to ≠ (clK cs q).from_
theorem tkOk_of {l : List Ev} (h : (callsR [5] l).2.2 = 0) : TkOk (callsR [5] l).1 := by
  obtain ⟨_, h2, h3, h4⟩ := callsR_all h
  refine ⟨callsR_len _ _, fun k hk ht => ?_, fun k hk => ?_, fun p q hp hq => ?_⟩
  · rw [clK_eq hk] at ht ⊢
    have ha := h4.ans k hk ht
    have h5 := (h2.each k hk).thing
    have h6 := (h2.each k hk).kind
    have e : (callsR [5] l).1[k].thing.toNat = 0 := by simp at h5; omega
    rw [e] at h6
    have hk10 : (callsR [5] l).1[k].kind = 10 := by simpa [kindsL] using h6
    rw [hk10] at ha
    simpa [ansB] using ha
  · rw [clK_eq hk]
    rcases h3.to k hk with h | h
    · exact .inl h
    · have := h4.lt k hk; right; omega
  · rw [clK_eq hp, clK_eq hq]; exact h4.ne p q hp hq
theorem mostK_bd {cs : List Cl} (h : TkOk cs) : ∀ k, k ≤ cs.length → -1 ≤ mostK cs k ∧ mostK cs k ≤ 1000
  | 0, _ => by simp [mostK]
  | k + 1, hk => by
    have h1 := mostK_bd h k (by omega)
    rw [mostK]
    split
    · exact h1
    · rename_i e
      have := h.res k (by omega) e
      omega
section
variable {cs : List Cl} (hok : TkOk cs) (hno : firstP cs.length (fun i => i) (twB cs) = none)
include hno
include hok
end
end Go.Proofs.YtjdckepbihcgfaaGreatDoor

namespace Go.Proofs.YtjdckepbihcgfaaGreatDoor
open Go.RowKit

section
variable (fn : Nat) [IsFn Tryz.prog fn] (p : Cl → Bool) (cvs : List Value) (A : Option Addr) (c : Nat) (l : List Cl) (w : World) (hA : RdE Cl.enc 7 w A l) (hl : l.length ≤ 9223372036854775807)
variable (hp : ∀ s ∈ l, ∀ w', Below w.heap.size w w' → Calls Tryz.prog fn (.agg (Cl.enc s).toArray :: cvs).toArray w' fun e w2 => e = .returned (.bool (p s)) ∧ Below w'.heap.size w' w2)
include hA hl hp
set_option maxRecDepth 100000 in
theorem indexCall_any : Calls Tryz.prog 48 #[.slice A l.length c, .func (.func fn) #[] cvs.toArray] w fun e w' => e = .returned (.int .i64 (idxF p l)) ∧ Below w.heap.size w w' := by
  refine calls_T (S := []) [] Tryz.func48 rfl Tryz.ntmps48 (by simp) (Mem.nil _) ?_
  repeat' (first | refine GO ?_ | (refine GOE ?_; (first | rintro _ _ ⟨rfl, rfl⟩ | rintro _ _ ⟨g, rfl, rfl⟩ | rintro _ _ ⟨A', c', rfl, rfl⟩)) | (refine GO2 ?_ ?_ <;> (refine Zs ?_; intro h; try exact Zx)) | fail)
  refine T_loop (X := Nat) (fun k => [(8, .int .i64 (k : Nat)), (7, .int .i64 (l.length : Nat)), (1, .func (.func fn) #[] cvs.toArray), (0, .slice A l.length c)]) (fun _ => [])
    (fun k => k ≤ l.length ∧ (l.take k).any p = false) (fun k => l.length - k) 0 ⟨by omega, by simp⟩ Ze (by exact SUBS) ?_
  rintro k ⟨hk, hno⟩
  by_cases hkl : k < l.length
  · obtain ⟨b, o, rfl, _⟩ := RdE.open hA (by omega)
    have hb := fun w' hb => hp l[k] (List.getElem_mem _) w' hb
    generalize hz : p l[k] = z at hb
    repeat' (first | refine GO ?_ | (refine GOE ?_; (first | rintro _ _ ⟨rfl, rfl⟩ | rintro _ _ ⟨g, rfl, rfl⟩ | rintro _ _ ⟨A', c', rfl, rfl⟩)) | (refine GO2 ?_ ?_ <;> (refine Zs ?_; intro h; try exact Zx)) | ((with_reducible (first | apply TD_e2z | apply TD_e3z | apply TL_e | apply TD_e2 | apply TD_e3)); ((with_reducible apply ES_callFV (f := fn) (us := []) (cs := cvs) (v := .bool z)); exact rfl; exact rfl; (intro w' hw; exact hb w' (hw.below0 rfl)); exact rfl); (first | exact rfl | exact ⟨rfl, rfl, rfl⟩); (rintro _ _ ⟨rfl, rfl⟩); (try refine ⟨SUB, ?_⟩)) | fail)
    · (refine At_ret Tryz.results48 rfl (fun w' hw => ?_))
      exact ⟨by rw [idxF_at hkl hno (by rw [hz]; assumption)]; rfl, hw.below0 rfl⟩
    · refine At_rounds (k + 1) ⟨hkl, any_take_not hkl hno (by rw [hz]; assumption)⟩ (by omega) Ze (by exact SUBS)
  · obtain rfl : k = l.length := by omega
    rw [List.take_length] at hno
    repeat' (first | refine GO ?_ | (refine GOE ?_; (first | rintro _ _ ⟨rfl, rfl⟩ | rintro _ _ ⟨g, rfl, rfl⟩ | rintro _ _ ⟨A', c', rfl, rfl⟩)) | (refine GO2 ?_ ?_ <;> (refine Zs ?_; intro h; try exact Zx)) | fail)
    (refine At_ret Tryz.results48 rfl (fun w' hw => ?_))
    exact ⟨by rw [idxF_no hno]; rfl, hw.below0 rfl⟩
set_option maxRecDepth 100000 in
theorem contCall_any : Calls Tryz.prog 15 #[.slice A l.length c, .func (.func fn) #[] cvs.toArray] w fun e w' => e = .returned (.bool (l.any p)) ∧ Below w.heap.size w w' := by
  have hi := fun w' (hb : Below w.heap.size w w') => indexCall_any fn p cvs A c l w' (RdE.below hA hb) hl (fun s hs w2 h2 => hp s hs w2 (bel_trans hb h2))
  have hz := idxF_any p l
  generalize idxF p l = z at *
  generalize l.any p = q at *
  subst hz
  refine calls_T (S := []) [] Tryz.func15 rfl Tryz.ntmps15 (by simp) (Mem.nil _) ?_
  repeat' (first | refine GO ?_ | (refine GOE ?_; (first | rintro _ _ ⟨rfl, rfl⟩ | rintro _ _ ⟨g, rfl, rfl⟩ | rintro _ _ ⟨A', c', rfl, rfl⟩)) | (refine GO2 ?_ ?_ <;> (refine Zs ?_; intro h; try exact Zx)) | ((with_reducible (first | apply TD_e2z | apply TD_e3z | apply TL_e | apply TD_e2 | apply TD_e3)); ((with_reducible apply ES_callV (f := 48)); exact rfl; (intro w hw; exact hi w (hw.below0 rfl)); exact rfl); (first | exact rfl | exact ⟨rfl, rfl, rfl⟩); (rintro _ _ ⟨rfl, rfl⟩); (try refine ⟨SUB, ?_⟩)) | fail)
  (refine At_ret Tryz.results15 rfl (fun w' hw => ?_))
  exact ⟨rfl, hw.below0 rfl⟩
end
end Go.Proofs.YtjdckepbihcgfaaGreatDoor

namespace Go.Proofs.YtjdckepbihcgfaaGreatDoor
open Go.RowKit

section
variable {P : Program} {C : Ctx} {E : Slots} {S S' : List Ent} {ty g t k e : Nat} {x y : Operand} {n : Int} {H : List (Int × Bool)}
theorem QS_lookBX [hm : MapOf P t k e] [hz : ZeroOf P e (.bool false)] {b : Bool} (hl : (lookM H n).getD false = b) (hx : evo E x = some (.map (some g))) (hy : evo E y = some (.int .i64 n)) (hD : entMap boolV g H ∈ S) : QS P C E S (.lookup t x y false) ty (.bool b) := by
  rw [← hl]; exact QS_lookB (hm := hm) (hz := hz) hx hy hD
end
/-- where a log's own things lie -/
structure LG where
  g : Nat
  A : Option Addr
  ca : Nat
  P : Option Addr
  cp : Nat
  M : Option Addr
  cm : Nat
def logS (cs : List Cl) (L : LG) (p m : List Nat) : List Ent :=
  [entBlk L.g 228 #[.slice L.A cs.length L.ca, .slice L.P p.length L.cp, .slice L.M m.length L.cm], entOwn Cl.enc 7 36 L.A L.ca cs, entOwn natEnc 1 3 L.P L.cp p, entOwn natEnc 1 3 L.M L.cm m]
section
variable (B0 : Option Addr) (d0 : Nat) (l : List Ev) (w : World) (hl : l.length ≤ 9223372036854775807) (hA : RdEv w B0 l)
include hl hA
set_option maxRecDepth 100000 in
set_option maxHeartbeats 4000000 in
theorem tkRead_err (h : ¬ (callsR [5] l).2.2 = 0) : Calls Tryz.prog 121 #[.slice B0 l.length d0] w fun e w' => e = .returned (.tuple #[.pointer none, .int .i64 (callsR [5] l).2.2]) ∧ Below w.heap.size w w' := by
  have h1 := fun T w h1 h2 => callsCode_any T B0 1 d0 [5] l w (by decide) hl h1 h2
  obtain ⟨cs, y, z, hcr⟩ : ∃ cs y z, callsR [5] l = (cs, y, z) := ⟨_, _, _, rfl⟩
  rw [hcr] at h1 h ⊢
  dsimp only at h1 h ⊢
  clear hcr
  refine calls_T (S := []) [] Tryz.func121 rfl Tryz.ntmps121 (by simp) (Mem.nil _) ?_
  repeat' (first
    | ((with_reducible refine TL_mem (S' := [entOwn intEnc 1 3 (some ⟨g, 0, none⟩) 1 [5]]) (fun w hw => Mem.asOwn (enc := intEnc) (M := 1) [5] (Upd.here _ _ _) rfl (fun _ => rfl) (by decide) hw) ?_))
    | ((first | with_reducible (first | apply TL_q | apply TD_q0 | apply TD_q1 | apply TD_q2 | apply TD_q3) | ((with_reducible (first | apply TD_q0y | apply TD_q1y)); exact rfl; exact rfl; (with_reducible exact rfl))); (first | ((with_reducible apply QS_lookBX hlook); exact rfl; exact rfl; (first | ((repeat (first | with_reducible exact List.mem_cons_self | with_reducible apply List.mem_cons_of_mem)); done) | (repeat (first | exact List.Mem.head _ | apply List.Mem.tail)))) | exact QS.auto); exact rfl) | refine GO ?_ | (refine GOE ?_; (first | rintro _ _ ⟨rfl, rfl⟩ | rintro _ _ ⟨g, rfl, rfl⟩ | rintro _ _ ⟨A', c', rfl, rfl⟩)) | (refine GO2 ?_ ?_ <;> (refine Zs ?_; intro h; try exact Zx)) | ((with_reducible (first | apply TD_e2z | apply TD_e3z | apply TL_e | apply TD_e2 | apply TD_e3)); ((with_reducible apply ES_callOwn (f := 12)); exact rfl; (intro w hw; exact h1 (some ⟨g, 0, none⟩) w (hw.ownRd Zm (fun _ => rfl)) (hw.rd rfl hA)); exact rfl); (first | exact rfl | exact ⟨rfl, rfl, rfl⟩); (rintro _ _ ⟨A1, c1, rfl, rfl⟩); (try refine ⟨SUB, ?_⟩)) | fail)
  (refine At_ret Tryz.results121 rfl (fun w' hw => ?_))
  exact ⟨rfl, hw.below0 rfl⟩
set_option maxRecDepth 100000 in
set_option maxHeartbeats 4000000 in
theorem tkRead_ok (h : (callsR [5] l).2.2 = 0) : Calls Tryz.prog 121 #[.slice B0 l.length d0] w fun e w' => ∃ L : LG, e = .returned (.tuple #[.pointer (some ⟨L.g, 0, none⟩), .int .i64 0]) ∧ Mem ⟨0, [], w⟩ w' (logS (callsR [5] l).1 L (pendT (callsR [5] l).1) (missT (callsR [5] l).1)) := by
  have hok := tkOk_of h
  have h1 := fun T w h1 h2 => callsCode_any T B0 1 d0 [5] l w (by decide) hl h1 h2
  obtain ⟨cs, y, z, hcr⟩ : ∃ cs y z, callsR [5] l = (cs, y, z) := ⟨_, _, _, rfl⟩
  rw [hcr] at h1 h hok ⊢
  dsimp only at h1 h hok ⊢
  subst h
  clear hcr
  have hfew := hok.few
  have hm0 := mostK_bd hok
  refine calls_T (S := []) [] Tryz.func121 rfl Tryz.ntmps121 (by simp) (Mem.nil _) ?_
  repeat' (first
    | ((with_reducible refine TL_mem (S' := [entOwn intEnc 1 3 (some ⟨g, 0, none⟩) 1 [5]]) (fun w hw => Mem.asOwn (enc := intEnc) (M := 1) [5] (Upd.here _ _ _) rfl (fun _ => rfl) (by decide) hw) ?_))
    | ((with_reducible (first | apply TD_e2z | apply TD_e3z | apply TL_e | apply TD_e2 | apply TD_e3)); ((with_reducible apply ES_makeMapB); exact rfl); (first | exact rfl | exact ⟨rfl, rfl, rfl⟩); (rintro _ _ ⟨gm, rfl, rfl⟩); (try refine ⟨SUB, ?_⟩))
    | ((first | with_reducible (first | apply TL_q | apply TD_q0 | apply TD_q1 | apply TD_q2 | apply TD_q3) | ((with_reducible (first | apply TD_q0y | apply TD_q1y)); exact rfl; exact rfl; (with_reducible exact rfl))); (first | ((with_reducible apply QS_lookBX hlook); exact rfl; exact rfl; (first | ((repeat (first | with_reducible exact List.mem_cons_self | with_reducible apply List.mem_cons_of_mem)); done) | (repeat (first | exact List.Mem.head _ | apply List.Mem.tail)))) | exact QS.auto); exact rfl) | refine GO ?_ | (refine GOE ?_; (first | rintro _ _ ⟨rfl, rfl⟩ | rintro _ _ ⟨g, rfl, rfl⟩ | rintro _ _ ⟨A', c', rfl, rfl⟩)) | (refine GO2 ?_ ?_ <;> (refine Zs ?_; intro h; try exact Zx)) | ((with_reducible (first | apply TD_e2z | apply TD_e3z | apply TL_e | apply TD_e2 | apply TD_e3)); ((with_reducible apply ES_callOwn (f := 12)); exact rfl; (intro w hw; exact h1 (some ⟨g, 0, none⟩) w (hw.ownRd Zm (fun _ => rfl)) (hw.rd rfl hA)); exact rfl); (first | exact rfl | exact ⟨rfl, rfl, rfl⟩); (rintro _ _ ⟨A1, c1, rfl, rfl⟩); (try refine ⟨SUB, ?_⟩)) | fail)
  obtain ⟨gl, rfl⟩ : ∃ x, x = g := ⟨_, rfl⟩
  refine T_loop (X := Nat × Option Addr × Nat) (fun x => [(29, .int .i64 (x.1 : Nat)), (28, .int .i64 cs.length), (27, .slice A1 cs.length c1), (7, .pointer (some ⟨gl, 0, none⟩)), (8, .int .i64 (mostK cs x.1)), (9, .map (some gm))])
    (fun x => [entMap boolV gm (hasM cs x.1), entBlk gl 228 #[.slice A1 cs.length c1, .slice x.2.1 (pendK cs x.1).length x.2.2, .slice none 0 0], entOwn Cl.enc 7 36 A1 c1 cs, entOwn natEnc 1 3 x.2.1 x.2.2 (pendK cs x.1)])
    (fun x => x.1 ≤ cs.length) (fun x => cs.length - x.1) (0, none, 0) (by (try dsimp only); omega) Ze (fun w' hw => by
      show Mem _ w' [entMap boolV gm [], entBlk gl 228 #[.slice A1 cs.length c1, .slice none 0 0, .slice none 0 0], entOwn Cl.enc 7 36 A1 c1 cs, entOwn natEnc 1 3 none 0 ([] : List Nat)]
      exact (hw.nilOwn natEnc 1 3).sel Zl) ?_
  rintro ⟨k, PA, pc⟩ hk
  dsimp only at hk ⊢
  have hpl := pendK_len cs k
  have hps := pendK_succ cs k
  have hbd := hm0 k hk
  by_cases hkl : k < cs.length
  · have hck := clK_eq hkl
    have hms : mostK cs (k + 1) = if (clK cs k).to = -1 then mostK cs k else max (mostK cs k) (clK cs k).res := rfl
    have hhs : hasM cs (k + 1) = if (clK cs k).to = -1 then hasM cs k else putM (hasM cs k) (clK cs k).res true := rfl
    rw [hck] at hps hms hhs
    refine T_own (enc := Cl.enc) (ls := cs) Zm (by omega) ?_
    rintro gC rfl
    generalize pendK cs k = p at *
    generalize hasM cs k = H at *
    generalize mostK cs k = m at *
    by_cases ht : cs[k].to = -1
    · rw [if_pos ht] at hps hms hhs
      repeat' (first | ((first | with_reducible (first | apply TL_q | apply TD_q0 | apply TD_q1 | apply TD_q2 | apply TD_q3) | ((with_reducible (first | apply TD_q0y | apply TD_q1y)); exact rfl; exact rfl; (with_reducible exact rfl))); (first | ((with_reducible apply QS_lookBX hlook); exact rfl; exact rfl; (first | ((repeat (first | with_reducible exact List.mem_cons_self | with_reducible apply List.mem_cons_of_mem)); done) | (repeat (first | exact List.Mem.head _ | apply List.Mem.tail)))) | exact QS.auto); exact rfl) | refine GO ?_ | (refine GOE ?_; (first | rintro _ _ ⟨rfl, rfl⟩ | rintro _ _ ⟨g, rfl, rfl⟩ | rintro _ _ ⟨A', c', rfl, rfl⟩)) | (refine GO2 ?_ ?_ <;> (refine Zs ?_; intro h; try exact Zx)) | ((with_reducible (first | apply TD_e2z | apply TD_e3z | apply TL_e | apply TD_e2 | apply TD_e3)); ((with_reducible apply ES_append1 (enc := natEnc) (xx := k)); exact rfl; exact rfl; (repeat (first | with_reducible exact List.mem_cons_self | with_reducible apply List.mem_cons_of_mem)); exact rfl; exact fun _ => rfl; exact fun _ => rfl; (intro A' c'; first | ((repeat (first | with_reducible exact Upd.here _ _ _ | with_reducible apply Upd.there)); done) | (repeat (first | exact Upd.here _ _ _ | apply Upd.there))); (omega); decide; exact rfl); (first | exact rfl | exact ⟨rfl, rfl, rfl⟩); (rintro _ _ ⟨A', c', rfl, rfl⟩); (try refine ⟨SUB, ?_⟩)) | fail)
      apply At_rounds (k + 1, A', c')
      case hE => (try dsimp only); rw [hms]; exact Ze
      case hS => (try dsimp only); rw [hps, hhs]; exact fun w' hw => hw.sel Zl
      case hμ => (try dsimp only); omega
      case hp => (try dsimp only); omega
    · rw [if_neg ht] at hps hms hhs
      repeat' (first | ((first | with_reducible (first | apply TL_q | apply TD_q0 | apply TD_q1 | apply TD_q2 | apply TD_q3) | ((with_reducible (first | apply TD_q0y | apply TD_q1y)); exact rfl; exact rfl; (with_reducible exact rfl))); (first | ((with_reducible apply QS_lookBX hlook); exact rfl; exact rfl; (first | ((repeat (first | with_reducible exact List.mem_cons_self | with_reducible apply List.mem_cons_of_mem)); done) | (repeat (first | exact List.Mem.head _ | apply List.Mem.tail)))) | exact QS.auto); exact rfl) | refine GO ?_ | (refine GOE ?_; (first | rintro _ _ ⟨rfl, rfl⟩ | rintro _ _ ⟨g, rfl, rfl⟩ | rintro _ _ ⟨A', c', rfl, rfl⟩)) | (refine GO2 ?_ ?_ <;> (refine Zs ?_; intro h; try exact Zx)) | fail)
      apply At_rounds (k + 1, PA, pc)
      case hE => (try dsimp only); rw [hms]; exact Ze
      case hS => (try dsimp only); rw [hps, hhs]; exact fun w' hw => hw.sel Zl
      case hμ => (try dsimp only); omega
      case hp => (try dsimp only); omega
  · obtain rfl : k = cs.length := by omega
    have hnum : ((numT cs : Nat) : Int) = mostK cs cs.length + 1 := by unfold numT; omega
    have hlk := fun n => hasM_look cs n cs.length
    rw [show pendK cs cs.length = pendT cs from rfl]
    have hpl : (pendT cs).length ≤ cs.length := hpl
    generalize hasM cs cs.length = H at *
    generalize mostK cs cs.length = m at *
    repeat' (first | ((first | with_reducible (first | apply TL_q | apply TD_q0 | apply TD_q1 | apply TD_q2 | apply TD_q3) | ((with_reducible (first | apply TD_q0y | apply TD_q1y)); exact rfl; exact rfl; (with_reducible exact rfl))); (first | ((with_reducible apply QS_lookBX hlook); exact rfl; exact rfl; (first | ((repeat (first | with_reducible exact List.mem_cons_self | with_reducible apply List.mem_cons_of_mem)); done) | (repeat (first | exact List.Mem.head _ | apply List.Mem.tail)))) | exact QS.auto); exact rfl) | refine GO ?_ | (refine GOE ?_; (first | rintro _ _ ⟨rfl, rfl⟩ | rintro _ _ ⟨g, rfl, rfl⟩ | rintro _ _ ⟨A', c', rfl, rfl⟩)) | (refine GO2 ?_ ?_ <;> (refine Zs ?_; intro h; try exact Zx)) | fail)
    refine T_loop (X := Nat × Option Addr × Nat) (fun x => [(57, .int .i64 (x.1 : Nat)), (56, .int .i64 (m + 1)), (7, .pointer (some ⟨gl, 0, none⟩)), (9, .map (some gm))])
      (fun x => [entMap boolV gm H, entBlk gl 228 #[.slice A1 cs.length c1, .slice PA (pendT cs).length pc, .slice x.2.1 (missK cs x.1).length x.2.2], entOwn Cl.enc 7 36 A1 c1 cs, entOwn natEnc 1 3 PA pc (pendT cs), entOwn natEnc 1 3 x.2.1 x.2.2 (missK cs x.1)])
      (fun x => x.1 ≤ numT cs) (fun x => numT cs - x.1) (0, none, 0) (by (try dsimp only); omega) Ze (fun w' hw => by
        show Mem _ w' [entMap boolV gm H, entBlk gl 228 #[.slice A1 cs.length c1, .slice PA (pendT cs).length pc, .slice none 0 0], entOwn Cl.enc 7 36 A1 c1 cs, entOwn natEnc 1 3 PA pc (pendT cs), entOwn natEnc 1 3 none 0 ([] : List Nat)]
        exact (hw.nilOwn natEnc 1 3).sel Zl) ?_
    rintro ⟨n, MA, mc⟩ hn
    dsimp only at hn ⊢
    have hml := missK_len cs n
    have hmsu := missK_succ cs n
    by_cases hnl : n < numT cs
    · have hlook := hlk (n : Int)
      rw [show hasK cs (n : Int) cs.length = hasT cs n from rfl] at hlook
      generalize missK cs n = ml at *
      cases hb : hasT cs n with
      | true =>
        rw [hb] at hlook hmsu
        rw [if_pos rfl] at hmsu
        repeat' (first | ((first | with_reducible (first | apply TL_q | apply TD_q0 | apply TD_q1 | apply TD_q2 | apply TD_q3) | ((with_reducible (first | apply TD_q0y | apply TD_q1y)); exact rfl; exact rfl; (with_reducible exact rfl))); (first | ((with_reducible apply QS_lookBX hlook); exact rfl; exact rfl; (first | ((repeat (first | with_reducible exact List.mem_cons_self | with_reducible apply List.mem_cons_of_mem)); done) | (repeat (first | exact List.Mem.head _ | apply List.Mem.tail)))) | exact QS.auto); exact rfl) | refine GO ?_ | (refine GOE ?_; (first | rintro _ _ ⟨rfl, rfl⟩ | rintro _ _ ⟨g, rfl, rfl⟩ | rintro _ _ ⟨A', c', rfl, rfl⟩)) | (refine GO2 ?_ ?_ <;> (refine Zs ?_; intro h; try exact Zx)) | fail)
        apply At_rounds (n + 1, MA, mc)
        case hE => (try dsimp only); exact Ze
        case hS => (try dsimp only); rw [hmsu]; exact fun w' hw => hw.sel Zl
        case hμ => (try dsimp only); omega
        case hp => (try dsimp only); omega
      | false =>
        rw [hb] at hlook hmsu
        rw [if_neg (by decide)] at hmsu
        repeat' (first | ((first | with_reducible (first | apply TL_q | apply TD_q0 | apply TD_q1 | apply TD_q2 | apply TD_q3) | ((with_reducible (first | apply TD_q0y | apply TD_q1y)); exact rfl; exact rfl; (with_reducible exact rfl))); (first | ((with_reducible apply QS_lookBX hlook); exact rfl; exact rfl; (first | ((repeat (first | with_reducible exact List.mem_cons_self | with_reducible apply List.mem_cons_of_mem)); done) | (repeat (first | exact List.Mem.head _ | apply List.Mem.tail)))) | exact QS.auto); exact rfl) | refine GO ?_ | (refine GOE ?_; (first | rintro _ _ ⟨rfl, rfl⟩ | rintro _ _ ⟨g, rfl, rfl⟩ | rintro _ _ ⟨A', c', rfl, rfl⟩)) | (refine GO2 ?_ ?_ <;> (refine Zs ?_; intro h; try exact Zx)) | ((with_reducible (first | apply TD_e2z | apply TD_e3z | apply TL_e | apply TD_e2 | apply TD_e3)); ((with_reducible apply ES_append1 (enc := natEnc) (xx := n)); exact rfl; exact rfl; (repeat (first | with_reducible exact List.mem_cons_self | with_reducible apply List.mem_cons_of_mem)); exact rfl; exact fun _ => rfl; exact fun _ => rfl; (intro A' c'; first | ((repeat (first | with_reducible exact Upd.here _ _ _ | with_reducible apply Upd.there)); done) | (repeat (first | exact Upd.here _ _ _ | apply Upd.there))); (omega); decide; exact rfl); (first | exact rfl | exact ⟨rfl, rfl, rfl⟩); (rintro _ _ ⟨A', c', rfl, rfl⟩); (try refine ⟨SUB, ?_⟩)) | fail)
        apply At_rounds (n + 1, A', c')
        case hE => (try dsimp only); exact Ze
        case hS => (try dsimp only); rw [hmsu]; exact fun w' hw => hw.sel Zl
        case hμ => (try dsimp only); omega
        case hp => (try dsimp only); omega
    · obtain rfl : n = numT cs := by omega
      repeat' (first | ((first | with_reducible (first | apply TL_q | apply TD_q0 | apply TD_q1 | apply TD_q2 | apply TD_q3) | ((with_reducible (first | apply TD_q0y | apply TD_q1y)); exact rfl; exact rfl; (with_reducible exact rfl))); (first | ((with_reducible apply QS_lookBX hlook); exact rfl; exact rfl; (first | ((repeat (first | with_reducible exact List.mem_cons_self | with_reducible apply List.mem_cons_of_mem)); done) | (repeat (first | exact List.Mem.head _ | apply List.Mem.tail)))) | exact QS.auto); exact rfl) | refine GO ?_ | (refine GOE ?_; (first | rintro _ _ ⟨rfl, rfl⟩ | rintro _ _ ⟨g, rfl, rfl⟩ | rintro _ _ ⟨A', c', rfl, rfl⟩)) | (refine GO2 ?_ ?_ <;> (refine Zs ?_; intro h; try exact Zx)) | fail)
      (refine At_ret Tryz.results121 rfl (fun w' hw => ?_))
      refine ⟨⟨gl, A1, c1, PA, pc, MA, mc⟩, rfl, ?_⟩
      show Mem ⟨0, [], w⟩ _ [entBlk gl 228 #[.slice A1 cs.length c1, .slice PA (pendT cs).length pc, .slice MA (missK cs (numT cs)).length mc], entOwn Cl.enc 7 36 A1 c1 cs, entOwn natEnc 1 3 PA pc (pendT cs), entOwn natEnc 1 3 MA mc (missK cs (numT cs))]
      exact (hw.anyN 0).sel Zl
end
end Go.Proofs.YtjdckepbihcgfaaGreatDoor
