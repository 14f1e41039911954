/- Lemmas for the walks (Seq3, Seq4, Seq5). No condition. -/
import Derived.Test.YtiimjppceobkfaaG24
set_option linter.unusedSimpArgs false
set_option linter.unusedVariables false
set_option linter.unusedSectionVars false
set_option linter.unnecessarySimpa false
namespace Go.Proofs.Ytiimjppceobkfaa

def openN (cs : List Cl) : Nat := cs.countP fun c => decide (c.to = -1)
/-- what comes later: calls stay, those that were answered as they are -/
structure Later (m : Int) (cs ds : List Cl) : Prop where
  len : cs.length ≤ ds.length
  from_ : ∀ q, q < cs.length → (ds.getD q default).from_ = (cs.getD q default).from_
  done : ∀ q, q < cs.length → (cs.getD q default).to ≠ -1 → (ds.getD q default).to = (cs.getD q default).to
  opn : ∀ q, q < cs.length → (cs.getD q default).to = -1 → (ds.getD q default).to = -1 ∨ m ≤ (ds.getD q default).to
  new : ∀ q, cs.length ≤ q → q < ds.length → m ≤ (ds.getD q default).from_
theorem Later.refl (m : Int) (cs : List Cl) : Later m cs cs := ⟨Nat.le_refl _, fun _ _ => rfl, fun _ _ _ => rfl, fun _ _ h => .inl h, fun q h1 h2 => by omega⟩
theorem later_step {ts : List Int} {m i : Int} {cs ds : List Cl} (x : Ev) (hm : m ≤ i) (h : Later m cs ds) : Later m cs (evR ts ds i x).2 := by
  unfold evR
  by_cases hf : formBad ts x = true
  · rw [if_pos hf]; exact h
  · rw [if_neg hf]
    by_cases hk : x.kind = 0
    · rw [if_pos hk]
      split
      · exact h
      · split
        · obtain ⟨p, hp, hpl, hpw, hpt⟩ := openTo_at (cs := ds) (who := x.who) ds.length (by omega)
          rw [show (openTo ds x.who ds.length).toNat = p by omega]
          dsimp only
          have hgp : ∀ q c, (ds.set p c).getD q default = if p = q then c else ds.getD q default := fun q c => by
            rw [List.getD_eq_getElem?_getD, List.getElem?_set]
            split
            · rename_i e; subst e; simp [hpl]
            · rw [← List.getD_eq_getElem?_getD]
          refine ⟨by rw [List.length_set]; exact h.len, fun q hq => ?_, fun q hq ht => ?_, fun q hq ht => ?_, fun q h1 h2 => ?_⟩
          · rw [hgp]
            split
            · rename_i e; subst e; exact h.from_ _ hq
            · exact h.from_ q hq
          · rw [hgp]
            split
            · rename_i e; subst e
              have := h.done _ hq ht
              rw [hpt] at this
              exact absurd this.symm ht
            · exact h.done q hq ht
          · rw [hgp]
            split
            · exact .inr hm
            · exact h.opn q hq ht
          · rw [hgp]
            rw [List.length_set] at h2
            split
            · rename_i e; subst e; exact h.new _ h1 h2
            · exact h.new q h1 h2
        · exact h
    · rw [if_neg hk]
      split
      · exact h
      · split
        · exact h
        · dsimp only
          have hga : ∀ q (c : Cl), q < ds.length → (ds ++ [c]).getD q default = ds.getD q default := fun q c hq => by
            rw [List.getD_eq_getElem?_getD, List.getElem?_append_left hq, ← List.getD_eq_getElem?_getD]
          have hl := h.len
          refine ⟨by rw [List.length_append]; omega, fun q hq => by rw [hga q _ (by omega)]; exact h.from_ q hq, fun q hq ht => by rw [hga q _ (by omega)]; exact h.done q hq ht, fun q hq ht => by rw [hga q _ (by omega)]; exact h.opn q hq ht, fun q h1 h2 => ?_⟩
          rw [List.length_append, List.length_singleton] at h2
          by_cases e : q < ds.length
          · rw [hga q _ e]; exact h.new q h1 e
          · obtain rfl : q = ds.length := by omega
            simp [List.getD_eq_getElem?_getD, hm]
theorem later_st (ts : List Int) (l : List Ev) (m : Nat) : ∀ d : Nat, Later (m : Int) (stR ts l m) (stR ts l (m + d))
  | 0 => Later.refl _ _
  | d + 1 => by
    have := later_step (ts := ts) (i := ((m + d : Nat) : Int)) (l.getD (m + d) default) (by omega) (later_st ts l m d)
    rw [show m + (d + 1) = (m + d) + 1 by omega, stR]
    exact this
/-- at a place: had anybody called, and is nobody open -/
def calmAt (cs : List Cl) (a : Int) : Bool := (cs.any fun y => decide (y.from_ ≤ a)) && !(cs.any fun y => decide (y.from_ ≤ a) && (decide (y.to = -1) || decide (a < y.to)))
def calmTo (cs : List Cl) (k : Nat) : Nat := (List.range k).countP fun a : Nat => calmAt cs (a : Int)
def calmN (cs : List Cl) (i : Nat) : Nat := calmTo cs (cs.getD i default).from_.toNat
def calmL (cs : List Cl) : List Int := (List.range cs.length).map fun i => (calmN cs i : Int)
theorem calmTo_succ (cs : List Cl) (k : Nat) : calmTo cs (k + 1) = calmTo cs k + (if calmAt cs k = true then 1 else 0) := by
  unfold calmTo
  rw [List.range_succ, List.countP_append, List.countP_cons, List.countP_nil]
  simp
theorem calmTo_mono (cs : List Cl) {a b : Nat} (h : a ≤ b) : calmTo cs a ≤ calmTo cs b := by
  induction h with
  | refl => exact Nat.le_refl _
  | step _ ih => rw [calmTo_succ]; omega
theorem calmTo_lt (cs : List Cl) : ∀ {a b : Nat}, calmTo cs a < calmTo cs b → ∃ c, a ≤ c ∧ c < b ∧ calmAt cs c = true
  | a, 0, h => by simp [calmTo] at h
  | a, b + 1, h => by
    rw [calmTo_succ] at h
    by_cases hc : calmAt cs b = true
    · by_cases hab : a ≤ b
      · exact ⟨b, hab, by omega, hc⟩
      · have := calmTo_mono cs (show b + 1 ≤ a by omega)
        rw [calmTo_succ] at this
        omega
    · rw [if_neg hc] at h
      obtain ⟨c, h1, h2, h3⟩ := calmTo_lt cs (a := a) (b := b) (by omega)
      exact ⟨c, h1, by omega, h3⟩
theorem calmAt_false {cs : List Cl} {a : Int} {q : Nat} (hq : q < cs.length) (h1 : (cs.getD q default).from_ ≤ a) (h2 : (cs.getD q default).to = -1 ∨ a < (cs.getD q default).to) : calmAt cs a = false := by
  unfold calmAt
  have : (cs.any fun y => decide (y.from_ ≤ a) && (decide (y.to = -1) || decide (a < y.to))) = true := by
    rw [List.any_eq_true]
    rw [show cs.getD q default = cs[q] by simp [hq]] at h1 h2
    exact ⟨cs[q], List.getElem_mem hq, by simp [h1, h2]⟩
  rw [this]; simp
theorem openN_pos {cs : List Cl} : 0 < openN cs ↔ ∃ q, q < cs.length ∧ (cs.getD q default).to = -1 := by
  unfold openN
  rw [List.countP_pos_iff]
  constructor
  · rintro ⟨c, hc, h⟩
    obtain ⟨q, hq, rfl⟩ := List.mem_iff_getElem.1 hc
    exact ⟨q, hq, by simpa [hq] using h⟩
  · rintro ⟨q, hq, h⟩
    exact ⟨cs[q], List.getElem_mem hq, by simpa [hq] using h⟩
/-- at a place behind which as many are open -/
theorem calm_open {ts : List Int} {l : List Ev} {k : Nat} (hk : k < l.length) (hne : 0 < (stR ts l (k + 1)).length) (hfr : ((stR ts l (k + 1)).getD 0 default).from_ ≤ k) :
    calmAt (stR ts l l.length) k = decide (openN (stR ts l (k + 1)) = 0) := by
  obtain ⟨d, hd⟩ : ∃ d, l.length = (k + 1) + d := ⟨l.length - (k + 1), by omega⟩
  have hL := later_st ts l (k + 1) d
  rw [← hd] at hL
  have hok := clsOk_st ts l (k + 1)
  have hto := clsTo_st ts l (k + 1)
  generalize stR ts l (k + 1) = cs at *
  generalize stR ts l l.length = ds at *
  have hl := hL.len
  by_cases ho : openN cs = 0
  · rw [decide_eq_true ho]
    unfold calmAt
    have h1 : (ds.any fun y => decide (y.from_ ≤ (k : Int))) = true := by
      rw [List.any_eq_true]
      refine ⟨ds[0]'(by omega), List.getElem_mem _, ?_⟩
      have := hL.from_ 0 hne
      rw [show ds.getD 0 default = ds[0]'(by omega) by simp [show 0 < ds.length by omega]] at this
      rw [this]; exact decide_eq_true hfr
    have h2 : (ds.any fun y => decide (y.from_ ≤ (k : Int)) && (decide (y.to = -1) || decide ((k : Int) < y.to))) = false := by
      rw [List.any_eq_false]
      intro y hy
      obtain ⟨q, hq, rfl⟩ := List.mem_iff_getElem.1 hy
      have hg : ds.getD q default = ds[q] := by simp [hq]
      by_cases e : q < cs.length
      · have hne1 : (cs.getD q default).to ≠ -1 := fun ht => by have := openN_pos.2 ⟨q, e, ht⟩; omega
        have hd1 := hL.done q e hne1
        have hg2 : cs.getD q default = cs[q] := by simp [e]
        rw [hg, hg2] at hd1
        rw [hg2] at hne1
        rcases hto.to q e with h3 | h3
        · exact absurd h3 hne1
        · rw [hd1]
          have h5 : ¬ (k : Int) < cs[q].to := by omega
          simp [hne1, h5]
      · have hn := hL.new q (by omega) hq
        rw [hg] at hn
        have h5 : ¬ ds[q].from_ ≤ (k : Int) := by omega
        simp [h5]
    rw [h1, h2]; rfl
  · rw [decide_eq_false ho]
    obtain ⟨q, hq, ht⟩ := openN_pos.1 (show 0 < openN cs by omega)
    have hg2 : cs.getD q default = cs[q] := by simp [hq]
    refine calmAt_false (q := q) (by omega) ?_ ?_
    · rw [hL.from_ q hq, hg2]
      have := (hok.each q hq).place.2
      omega
    · rcases hL.opn q hq ht with h | h
      · exact .inl h
      · exact .inr (by omega)
/-! event by event -/
def epStep (st : List Int × Int × Int) (v : Ev) : List Int × Int × Int :=
  if v.kind = 0 then (st.1, st.2.1 - 1, if st.2.1 - 1 = 0 then st.2.2 + 1 else st.2.2) else (st.1 ++ [st.2.2], st.2.1 + 1, st.2.2)
def epTo (l : List Ev) (k : Nat) : List Int × Int × Int := (l.take k).foldl epStep ([], 0, 0)
theorem epTo_succ {l : List Ev} {k : Nat} (h : k < l.length) : epTo l (k + 1) = epStep (epTo l k) l[k] := by
  unfold epTo
  rw [List.take_succ_eq_append_getElem h, List.foldl_append]; rfl
theorem evR_good {ts : List Int} {cs : List Cl} {i : Int} {x : Ev} (h : (evR ts cs i x).1 = 0) :
    (x.kind = 0 ∧ ∃ m, m < cs.length ∧ (cs.getD m default).to = -1 ∧ (evR ts cs i x).2 = cs.set m { cs.getD m default with res := x.value, to := i }) ∨ (x.kind ≠ 0 ∧ (evR ts cs i x).2 = cs ++ [⟨x.who, x.thing, x.kind, x.value, 0, i, -1⟩]) := by
  unfold evR at h ⊢
  by_cases hf : formBad ts x = true
  · rw [if_pos hf] at h; cases h
  · rw [if_neg hf] at h ⊢
    by_cases hk : x.kind = 0
    · rw [if_pos hk] at h ⊢
      split at h
      · cases h
      · rename_i hz
        rw [if_neg hz]
        split at h
        · rename_i hc
          rw [if_pos hc]
          obtain ⟨p, hp, hpl, _, hpt⟩ := openTo_at (cs := cs) (who := x.who) cs.length (by omega)
          exact .inl ⟨hk, p, hpl, hpt, by rw [show (openTo cs x.who cs.length).toNat = p by omega]⟩
        · cases h
    · rw [if_neg hk] at h ⊢
      split at h
      · cases h
      · rename_i hb
        rw [if_neg hb]
        split at h
        · cases h
        · rename_i ho
          rw [if_neg ho]
          exact .inr ⟨hk, rfl⟩
theorem openN_set {c : Cl} (hc : c.to ≠ -1) : ∀ {cs : List Cl} {m : Nat}, m < cs.length → (cs.getD m default).to = -1 → openN (cs.set m c) + 1 = openN cs
  | [], _, h, _ => by simp at h
  | x :: cs, 0, _, h => by
    have h' : x.to = -1 := by simpa using h
    unfold openN
    rw [List.set_cons_zero, List.countP_cons, List.countP_cons]
    simp [h', hc]
  | x :: cs, m + 1, hm, h => by
    have ih := openN_set hc (cs := cs) (m := m) (by simpa using hm) (by simpa using h)
    unfold openN at ih ⊢
    rw [List.set_cons_succ, List.countP_cons, List.countP_cons]
    omega
theorem openN_push {cs : List Cl} {c : Cl} (hc : c.to = -1) : openN (cs ++ [c]) = openN cs + 1 := by
  unfold openN
  rw [List.countP_append, List.countP_cons, List.countP_nil]
  simp [hc]
theorem ep_inv {ts : List Int} {l : List Ev} (hv : ∀ j, j < l.length → erR ts l j = 0) : ∀ k, k ≤ l.length →
    (epTo l k).1.length = (stR ts l k).length ∧ (epTo l k).2.1 = openN (stR ts l k) ∧ (epTo l k).2.2 = calmTo (stR ts l l.length) k ∧ ∀ q, q < (stR ts l k).length → (epTo l k).1.getD q 0 = calmTo (stR ts l l.length) ((stR ts l k).getD q default).from_.toNat
  | 0, _ => by
    refine ⟨rfl, rfl, by simp [epTo, calmTo], fun q hq => ?_⟩
    simp [stR] at hq
  | k + 1, hk => by
    obtain ⟨i1, i2, i3, i4⟩ := ep_inv hv k (by omega)
    have hkl : k < l.length := by omega
    have hg : l.getD k default = l[k] := by simp [hkl]
    have he := hv k hkl
    unfold erR at he
    have hst : stR ts l (k + 1) = (evR ts (stR ts l k) k (l.getD k default)).2 := rfl
    have hok := clsOk_st ts l (k + 1)
    have hcalm := fun h1 h2 => calm_open (ts := ts) (l := l) hkl h1 h2
    rw [epTo_succ hkl, calmTo_succ]
    rw [hg] at he hst
    have hfirst : 0 < (stR ts l (k + 1)).length → ((stR ts l (k + 1)).getD 0 default).from_ ≤ (k : Int) := fun h0 => by
      have := (hok.each 0 h0).place.2
      rw [show (stR ts l (k + 1)).getD 0 default = (stR ts l (k + 1))[0] by simp [h0]]
      omega
    generalize stR ts l l.length = F at *
    rcases evR_good he with ⟨h1, m, hm, hmt, h2⟩ | ⟨h1, h2⟩
    · rw [h2] at hst
      have hlen : (stR ts l (k + 1)).length = (stR ts l k).length := by rw [hst, List.length_set]
      have hop := openN_set (c := { (stR ts l k).getD m default with res := l[k].value, to := (k : Int) }) (by dsimp only; omega) hm hmt
      rw [← hst] at hop
      have hc := hcalm (by omega) (hfirst (by omega))
      have e1 : epStep (epTo l k) l[k] = ((epTo l k).1, (epTo l k).2.1 - 1, if (epTo l k).2.1 - 1 = 0 then (epTo l k).2.2 + 1 else (epTo l k).2.2) := by unfold epStep; rw [if_pos h1]
      rw [e1]
      refine ⟨by rw [hlen]; exact i1, by dsimp only; omega, ?_, fun q hq => ?_⟩
      · dsimp only
        rw [hc, i3]
        by_cases ho : openN (stR ts l (k + 1)) = 0
        · rw [if_pos (by omega), decide_eq_true ho]; simp
        · rw [if_neg (by omega), decide_eq_false ho]; simp
      · dsimp only
        rw [hlen] at hq
        rw [i4 q hq, hst, List.getD_eq_getElem?_getD, List.getD_eq_getElem?_getD, List.getElem?_set]
        split
        · rename_i e
          subst e
          simp [List.getD_eq_getElem?_getD, hm]
        · rfl
    · rw [h2] at hst
      have hlen : (stR ts l (k + 1)).length = (stR ts l k).length + 1 := by rw [hst, List.length_append]; rfl
      have hop := openN_push (cs := stR ts l k) (c := ⟨l[k].who, l[k].thing, l[k].kind, l[k].value, 0, (k : Int), -1⟩) rfl
      rw [← hst] at hop
      have hc := hcalm (by omega) (hfirst (by omega))
      have e1 : epStep (epTo l k) l[k] = ((epTo l k).1 ++ [(epTo l k).2.2], (epTo l k).2.1 + 1, (epTo l k).2.2) := by unfold epStep; rw [if_neg h1]
      rw [e1]
      refine ⟨by dsimp only; rw [List.length_append, i1, hlen]; rfl, by dsimp only; omega, ?_, fun q hq => ?_⟩
      · dsimp only
        rw [hc, decide_eq_false (by omega), i3]; simp
      · dsimp only
        rw [hst]
        by_cases e : q < (stR ts l k).length
        · have := i4 q e
          rw [List.getD_eq_getElem?_getD] at this ⊢
          rw [List.getElem?_append_left (by omega), this, List.getD_eq_getElem?_getD, List.getD_eq_getElem?_getD, List.getElem?_append_left e]
        · obtain rfl : q = (stR ts l k).length := by omega
          rw [List.getD_eq_getElem?_getD, List.getElem?_append_right (by omega), i1]
          simp [List.getD_eq_getElem?_getD, i3]
/-- both count alike -/
theorem epochs_calm {ts : List Int} {l : List Ev} (hv : ∀ j, j < l.length → erR ts l j = 0) : (epTo l l.length).1 = calmL (stR ts l l.length) := by
  obtain ⟨i1, _, _, i4⟩ := ep_inv hv l.length (Nat.le_refl _)
  apply List.ext_getElem
  · rw [i1]; simp [calmL]
  · intro q h1 h2
    have := i4 q (by omega)
    rw [show (epTo l l.length).1.getD q 0 = (epTo l l.length).1[q] by simp [h1]] at this
    rw [this]
    simp [calmL, calmN]
/-! the relation -/
def calmP (cs : List Cl) (i j : Nat) : Bool := decide (calmN cs i < calmN cs j)
def relCalm (cs : List Cl) : Nat → Nat := relN (calmP cs) cs.length
theorem relCalm_done (cs : List Cl) : relN (fun i j => (fun _ _ => false) i j || calmP cs i j) cs.length = relCalm cs := by simp [relCalm]
theorem relCalm_16 (cs : List Cl) (h : cs.length ≤ 16) (i : Nat) : relCalm cs i < 65536 := relN_lt _ h i
theorem relOk_calm {ts : List Int} {cs : List Cl} (h : SeaOk ts cs) : RelOk cs (relCalm cs) := by
  intro i j hb
  unfold relCalm at hb
  rw [relN_bit, Bool.and_eq_true, Bool.and_eq_true, decide_eq_true_eq, decide_eq_true_eq] at hb
  obtain ⟨hi, hj, ha⟩ := hb
  unfold calmP at ha
  rw [decide_eq_true_eq] at ha
  refine ⟨hi, hj, fun e => by subst e; omega, ?_⟩
  rw [callAt_eq hi]
  obtain ⟨c, h1, h2, h3⟩ := calmTo_lt cs ha
  intro ht
  have hf : calmAt cs (c : Int) = false := by
    refine calmAt_false (q := i) hi ?_ (.inl ?_)
    · have := (h.cls.each i hi).place.1
      rw [show cs.getD i default = cs[i] by simp [hi]] at h1 ⊢
      omega
    · rw [show cs.getD i default = cs[i] by simp [hi]]; exact ht
  rw [hf] at h3; cases h3
end Go.Proofs.Ytiimjppceobkfaa

namespace Go.Proofs.Ytiimjppceobkfaa
open Go.RowKit

theorem ep_bounds (l : List Ev) : ∀ k, k ≤ l.length → -(k : Int) ≤ (epTo l k).2.1 ∧ (epTo l k).2.1 ≤ k ∧ 0 ≤ (epTo l k).2.2 ∧ (epTo l k).2.2 ≤ k ∧ (epTo l k).1.length ≤ k
  | 0, _ => by simp [epTo]
  | k + 1, hk => by
    obtain ⟨h1, h2, h3, h4, h5⟩ := ep_bounds l k (by omega)
    rw [epTo_succ (by omega)]
    unfold epStep
    split
    · dsimp only
      split <;> omega
    · dsimp only
      rw [List.length_append, List.length_singleton]
      omega
section
variable (B : Option Addr) (d : Nat) (l : List Ev) (w : World) (hA : RdEv w B l) (hl : l.length ≤ 200)
include hA hl
set_option maxRecDepth 100000 in
set_option maxHeartbeats 1000000 in
theorem epochs_any : Calls Try.prog 109 #[.slice B l.length d] w fun e w' => ∃ A c, e = .returned (.slice A (epTo l l.length).1.length c) ∧ Own intEnc 1 3 w' w.heap.size (.slice A (epTo l l.length).1.length c) (epTo l l.length).1 ∧ Below w.heap.size w w' := by
  refine calls_T (S := []) [] Try.func109 rfl Try.ntmps109 (by simp) (Mem.nil _) ?_
  repeat' (first | (refine GO ?_) | (refine GOE ?_; (first | (rintro _ _ ⟨rfl, rfl⟩) | (rintro _ _ ⟨g, rfl, rfl⟩) | (rintro _ _ ⟨A', c', rfl, rfl⟩))) | ((refine GO2 ?_ ?_) <;> intro h <;> (try (repeat (first | with_reducible (replace h := of_decide_eq_true h) | with_reducible (replace h := of_decide_eq_false h) | with_reducible (replace h := bnt h) | with_reducible (replace h := bnf h) | with_reducible (replace h := Int.not_lt.mp h) | with_reducible (replace h := Int.not_le.mp h) | with_reducible (replace h := band_dec h) | with_reducible (replace h := band_decF h) | with_reducible (replace h := bor_dec h) | with_reducible (replace h := bor_decF h)))) <;> (try (exfalso; first | contradiction | omega))) | fail)
  refine T_loop (X := Nat × Option Addr × Nat) (fun x => [(10, .int .i64 (x.1 : Nat)), (9, .int .i64 l.length), (8, .slice B l.length d), (5, .int .i64 (epTo l x.1).2.2), (4, .int .i64 (epTo l x.1).2.1), (3, .slice x.2.1 (epTo l x.1).1.length x.2.2)])
    (fun x => [entOwn intEnc 1 3 x.2.1 x.2.2 (epTo l x.1).1]) (fun x => x.1 ≤ l.length) (fun x => l.length - x.1) (0, none, 0) (by (try dsimp only); omega) (by (repeat (first | exact SubE.nil _ | refine SubE.cons rfl ?_))) (fun w' hw => (hw.nilOwn intEnc 1 3).sub (by first | ((repeat (first | with_reducible exact List.nil_sublist _ | with_reducible exact List.Sublist.refl _ | with_reducible apply List.Sublist.cons_cons | with_reducible apply List.Sublist.cons)); done) | (repeat (first | exact List.nil_sublist _ | exact List.Sublist.refl _ | apply List.Sublist.cons_cons | apply List.Sublist.cons)))) ?_
  rintro ⟨k, A, c⟩ hk
  dsimp only at hk ⊢
  by_cases hkl : k < l.length
  · obtain ⟨b, o, rfl, _⟩ := RdE.open hA (by omega)
    obtain ⟨b1, b2, b3, b4, b5⟩ := ep_bounds l k (by omega)
    have hst := epTo_succ hkl
    generalize epTo l k = st at *
    obtain ⟨out, opn, ep⟩ := st
    dsimp only at b1 b2 b3 b4 b5 hst ⊢
    repeat' (first | (refine GO ?_) | (refine GOE ?_; (first | (rintro _ _ ⟨rfl, rfl⟩) | (rintro _ _ ⟨g, rfl, rfl⟩) | (rintro _ _ ⟨A', c', rfl, rfl⟩))) | ((refine GO2 ?_ ?_) <;> intro h <;> (try (repeat (first | with_reducible (replace h := of_decide_eq_true h) | with_reducible (replace h := of_decide_eq_false h) | with_reducible (replace h := bnt h) | with_reducible (replace h := bnf h) | with_reducible (replace h := Int.not_lt.mp h) | with_reducible (replace h := Int.not_le.mp h) | with_reducible (replace h := band_dec h) | with_reducible (replace h := band_decF h) | with_reducible (replace h := bor_dec h) | with_reducible (replace h := bor_decF h)))) <;> (try (exfalso; first | contradiction | omega))) | ((with_reducible (first | apply TD_e2z | apply TD_e3z | apply TL_e | apply TD_e2 | apply TD_e3)); ((with_reducible apply ES_append1 (enc := intEnc) (xx := ep)); exact rfl; exact rfl; (repeat (first | with_reducible exact List.mem_cons_self | with_reducible apply List.mem_cons_of_mem)); exact rfl; exact fun _ => rfl; exact fun _ => rfl; (intro A' c'; first | ((repeat (first | with_reducible exact Upd.here _ _ _ | with_reducible apply Upd.there)); done) | (repeat (first | exact Upd.here _ _ _ | apply Upd.there))); (omega); decide; exact rfl); (first | exact rfl | exact ⟨rfl, rfl, rfl⟩); (rintro _ _ ⟨A', c', rfl, rfl⟩); (try refine ⟨SUB, ?_⟩)) | fail)
    · have e : epTo l (k + 1) = (out, opn - 1, ep + 1) := by
        rw [hst]; unfold epStep
        rw [if_pos (by assumption)]
        dsimp only
        rw [if_pos (by assumption)]
      apply At_rounds (k + 1, A, c)
      case hE => dsimp only; rw [e]; (repeat (first | exact SubE.nil _ | refine SubE.cons rfl ?_))
      case hS => dsimp only; rw [e]; exact SUBS
      case hμ => (try dsimp only); omega
      case hp => (try dsimp only); omega
    · have e : epTo l (k + 1) = (out, opn - 1, ep) := by
        rw [hst]; unfold epStep
        rw [if_pos (by assumption)]
        dsimp only
        rw [if_neg (by assumption)]
      apply At_rounds (k + 1, A, c)
      case hE => dsimp only; rw [e]; (repeat (first | exact SubE.nil _ | refine SubE.cons rfl ?_))
      case hS => dsimp only; rw [e]; exact SUBS
      case hμ => (try dsimp only); omega
      case hp => (try dsimp only); omega
    · have e : epTo l (k + 1) = (out ++ [ep], opn + 1, ep) := by
        rw [hst]; unfold epStep
        rw [if_neg (by assumption)]
      apply At_rounds (k + 1, A', c')
      case hE => dsimp only; rw [e]; (repeat (first | exact SubE.nil _ | refine SubE.cons rfl ?_))
      case hS => dsimp only; rw [e]; exact SUBS
      case hμ => (try dsimp only); omega
      case hp => (try dsimp only); omega
  · obtain rfl : k = l.length := by omega
    generalize (epTo l l.length).1 = L at *
    repeat' (first | (refine GO ?_) | (refine GOE ?_; (first | (rintro _ _ ⟨rfl, rfl⟩) | (rintro _ _ ⟨g, rfl, rfl⟩) | (rintro _ _ ⟨A', c', rfl, rfl⟩))) | ((refine GO2 ?_ ?_) <;> intro h <;> (try (repeat (first | with_reducible (replace h := of_decide_eq_true h) | with_reducible (replace h := of_decide_eq_false h) | with_reducible (replace h := bnt h) | with_reducible (replace h := bnf h) | with_reducible (replace h := Int.not_lt.mp h) | with_reducible (replace h := Int.not_le.mp h) | with_reducible (replace h := band_dec h) | with_reducible (replace h := band_decF h) | with_reducible (replace h := bor_dec h) | with_reducible (replace h := bor_decF h)))) <;> (try (exfalso; first | contradiction | omega))) | fail)
    (refine At_ret Try.results109 rfl (fun w' hw => ?_))
    exact ⟨A, c, rfl, hw.ownOut rfl (by first | ((repeat (first | with_reducible exact List.mem_cons_self | with_reducible apply List.mem_cons_of_mem)); done) | (repeat (first | exact List.Mem.head _ | apply List.Mem.tail))), hw.below0 rfl⟩
end
def begB (cs : List Cl) (a : Int) (q : Nat) : Bool := (cs.take q).any fun y => decide (y.from_ ≤ a)
def opnB (cs : List Cl) (a : Int) (q : Nat) : Bool := (cs.take q).any fun y => decide (y.from_ ≤ a) && (decide (y.to = -1) || decide (a < y.to))
theorem begB_succ {cs : List Cl} {a : Int} {q : Nat} (h : q < cs.length) : begB cs a (q + 1) = (begB cs a q || decide (cs[q].from_ ≤ a)) := by
  unfold begB; rw [List.take_succ_eq_append_getElem h, List.any_append]; simp
theorem opnB_succ {cs : List Cl} {a : Int} {q : Nat} (h : q < cs.length) : opnB cs a (q + 1) = (opnB cs a q || (decide (cs[q].from_ ≤ a) && (decide (cs[q].to = -1) || decide (a < cs[q].to)))) := by
  unfold opnB; rw [List.take_succ_eq_append_getElem h, List.any_append]; simp
theorem calmAt_eq (cs : List Cl) (a : Int) : calmAt cs a = (begB cs a cs.length && !opnB cs a cs.length) := by
  unfold calmAt begB opnB; rw [List.take_length]
def calmK (cs : List Cl) (k : Nat) : List Int := (List.range k).map fun i => (calmN cs i : Int)
theorem calmK_succ (cs : List Cl) (k : Nat) : calmK cs k ++ [(calmN cs k : Int)] = calmK cs (k + 1) := by simp [calmK, List.range_succ]
theorem calmK_all (cs : List Cl) : calmK cs cs.length = calmL cs := rfl
theorem calmK_len (cs : List Cl) (k : Nat) : (calmK cs k).length = k := by simp [calmK]
theorem calmTo_le (cs : List Cl) (k : Nat) : calmTo cs k ≤ k := by
  unfold calmTo
  have := List.countP_le_length (p := fun a : Nat => calmAt cs (a : Int)) (l := List.range k)
  simpa using this
theorem HV4 {P Q : Prop} (p : P) (q : P → Q) : Q := q p
section
variable (A : Option Addr) (c : Nat) (cs : List Cl) (w : World) (hA : RdCl w A cs) (h9 : cs.length ≤ 12) (hfr : ∀ q (h : q < cs.length), 0 ≤ cs[q].from_ ∧ cs[q].from_ < 200)
include hA h9 hfr
set_option maxRecDepth 100000 in
set_option maxHeartbeats 4000000 in
theorem calmOf_any : Calls Try.prog 49 #[.slice A cs.length c] w fun e w' => ∃ A' c', e = .returned (.slice A' (calmL cs).length c') ∧ Own intEnc 1 3 w' w.heap.size (.slice A' (calmL cs).length c') (calmL cs) ∧ Below w.heap.size w w' := by
  refine calls_T (S := []) [] Try.func49 rfl Try.ntmps49 (by simp) (Mem.nil _) ?_
  repeat' (first | (refine GO ?_) | (refine GOE ?_; (first | (rintro _ _ ⟨rfl, rfl⟩) | (rintro _ _ ⟨g, rfl, rfl⟩) | (rintro _ _ ⟨A', c', rfl, rfl⟩))) | ((refine GO2 ?_ ?_) <;> intro h <;> (try (repeat (first | with_reducible (replace h := of_decide_eq_true h) | with_reducible (replace h := of_decide_eq_false h) | with_reducible (replace h := bnt h) | with_reducible (replace h := bnf h) | with_reducible (replace h := Int.not_lt.mp h) | with_reducible (replace h := Int.not_le.mp h) | with_reducible (replace h := band_dec h) | with_reducible (replace h := band_decF h) | with_reducible (replace h := bor_dec h) | with_reducible (replace h := bor_decF h)))) <;> (try (exfalso; first | contradiction | omega))) | fail)
  refine T_loop (X := Nat × Option Addr × Nat) (fun x => [(14, .int .i64 (x.1 : Nat)), (13, .int .i64 cs.length), (12, .slice A cs.length c), (3, .slice x.2.1 (calmK cs x.1).length x.2.2), (0, .slice A cs.length c)])
    (fun x => [entOwn intEnc 1 3 x.2.1 x.2.2 (calmK cs x.1)]) (fun x => x.1 ≤ cs.length) (fun x => cs.length - x.1) (0, none, 0) (by (try dsimp only); omega) (by (repeat (first | exact SubE.nil _ | refine SubE.cons rfl ?_))) (fun w' hw => (hw.nilOwn intEnc 1 3).sub (by first | ((repeat (first | with_reducible exact List.nil_sublist _ | with_reducible exact List.Sublist.refl _ | with_reducible apply List.Sublist.cons_cons | with_reducible apply List.Sublist.cons)); done) | (repeat (first | exact List.nil_sublist _ | exact List.Sublist.refl _ | apply List.Sublist.cons_cons | apply List.Sublist.cons)))) ?_
  rintro ⟨k, A1, c1⟩ hk
  dsimp only at hk ⊢
  have hkl1 := calmK_len cs k
  by_cases hkl : k < cs.length
  · obtain ⟨b, o, rfl, _⟩ := RdE.open hA (by omega)
    have hfk := hfr k hkl
    have hnext := calmK_succ cs k
    have hcn : calmN cs k = calmTo cs cs[k].from_.toNat := by unfold calmN; rw [clD hkl]
    generalize calmK cs k = L at *
    repeat' (first | (refine GO ?_) | (refine GOE ?_; (first | (rintro _ _ ⟨rfl, rfl⟩) | (rintro _ _ ⟨g, rfl, rfl⟩) | (rintro _ _ ⟨A', c', rfl, rfl⟩))) | ((refine GO2 ?_ ?_) <;> intro h <;> (try (repeat (first | with_reducible (replace h := of_decide_eq_true h) | with_reducible (replace h := of_decide_eq_false h) | with_reducible (replace h := bnt h) | with_reducible (replace h := bnf h) | with_reducible (replace h := Int.not_lt.mp h) | with_reducible (replace h := Int.not_le.mp h) | with_reducible (replace h := band_dec h) | with_reducible (replace h := band_decF h) | with_reducible (replace h := bor_dec h) | with_reducible (replace h := bor_decF h)))) <;> (try (exfalso; first | contradiction | omega))) | fail)
    obtain ⟨gx, rfl⟩ : ∃ x, x = g := ⟨_, rfl⟩
    refine T_loop (X := Nat) (fun a => [(20, .int .i64 (a : Nat)), (19, .int .i64 cs[k].from_), (6, .int .i64 (calmTo cs a : Nat)), (14, .int .i64 (k : Nat)), (13, .int .i64 cs.length), (12, .slice (some ⟨b, o, none⟩) cs.length c), (3, .slice A1 L.length c1), (0, .slice (some ⟨b, o, none⟩) cs.length c)])
      (fun _ => [entOwn intEnc 1 3 A1 c1 L]) (fun a => (a : Int) ≤ cs[k].from_) (fun a => (cs[k].from_ - a).toNat) 0 (by omega) (by (repeat (first | exact SubE.nil _ | refine SubE.cons rfl ?_))) (by exact SUBS) ?_
    intro a ha
    have hca := calmTo_le cs a
    have hsa := calmTo_succ cs a
    by_cases hal : (a : Int) < cs[k].from_
    · rw [calmAt_eq] at hsa
      generalize calmTo cs a = N at *
      repeat' (first | (refine GO ?_) | (refine GOE ?_; (first | (rintro _ _ ⟨rfl, rfl⟩) | (rintro _ _ ⟨g, rfl, rfl⟩) | (rintro _ _ ⟨A', c', rfl, rfl⟩))) | ((refine GO2 ?_ ?_) <;> intro h <;> (try (repeat (first | with_reducible (replace h := of_decide_eq_true h) | with_reducible (replace h := of_decide_eq_false h) | with_reducible (replace h := bnt h) | with_reducible (replace h := bnf h) | with_reducible (replace h := Int.not_lt.mp h) | with_reducible (replace h := Int.not_le.mp h) | with_reducible (replace h := band_dec h) | with_reducible (replace h := band_decF h) | with_reducible (replace h := bor_dec h) | with_reducible (replace h := bor_decF h)))) <;> (try (exfalso; first | contradiction | omega))) | fail)
      refine T_loop (X := Nat) (fun q => [(25, .int .i64 (q : Nat)), (24, .int .i64 cs.length), (23, .slice (some ⟨b, o, none⟩) cs.length c), (9, .bool (opnB cs a q)), (8, .bool (begB cs a q)), (7, .int .i64 (a : Nat)), (20, .int .i64 (a : Nat)), (19, .int .i64 cs[k].from_), (6, .int .i64 (N : Nat)), (14, .int .i64 (k : Nat)), (13, .int .i64 cs.length), (12, .slice (some ⟨b, o, none⟩) cs.length c), (3, .slice A1 L.length c1), (0, .slice (some ⟨b, o, none⟩) cs.length c)])
        (fun _ => [entOwn intEnc 1 3 A1 c1 L]) (fun q => q ≤ cs.length) (fun q => cs.length - q) 0 (by omega) (by (repeat (first | exact SubE.nil _ | refine SubE.cons rfl ?_))) (by exact SUBS) ?_
      intro q hq
      by_cases hql : q < cs.length
      · have e1 := begB_succ (a := (a : Int)) hql
        have e2 := opnB_succ (a := (a : Int)) hql
        generalize begB cs a q = p at *
        generalize opnB cs a q = r at *
        cases p <;> cases r
        all_goals
          repeat' (first | (refine GO ?_) | (refine GOE ?_; (first | (rintro _ _ ⟨rfl, rfl⟩) | (rintro _ _ ⟨g, rfl, rfl⟩) | (rintro _ _ ⟨A', c', rfl, rfl⟩))) | ((refine GO2 ?_ ?_) <;> intro h <;> (try (repeat (first | with_reducible (replace h := of_decide_eq_true h) | with_reducible (replace h := of_decide_eq_false h) | with_reducible (replace h := bnt h) | with_reducible (replace h := bnf h) | with_reducible (replace h := Int.not_lt.mp h) | with_reducible (replace h := Int.not_le.mp h) | with_reducible (replace h := band_dec h) | with_reducible (replace h := band_decF h) | with_reducible (replace h := bor_dec h) | with_reducible (replace h := bor_decF h)))) <;> (try (exfalso; first | contradiction | omega))) | fail)
          all_goals
            refine At_rounds (q + 1) hql (by omega) ?_ (by exact SUBS)
            first
              | (refine HV4 (P := opnB cs a (q + 1) = true) ?_ ?_; (focus (rw [e2]; simp [*]; (first | done | omega))); intro e2'; rw [e1, e2']; (repeat (first | exact SubE.nil _ | refine SubE.cons rfl ?_)); done)
              | (refine HV4 (P := opnB cs a (q + 1) = false) ?_ ?_; (focus (rw [e2]; simp [*]; (first | done | omega))); intro e2'; rw [e1, e2']; (repeat (first | exact SubE.nil _ | refine SubE.cons rfl ?_)); done)
              | (refine HV4 (P := opnB cs a (q + 1) = decide ((a : Int) < cs[q].to)) ?_ ?_; (focus (rw [e2]; simp [*]; (first | done | omega))); intro e2'; rw [e1, e2']; (repeat (first | exact SubE.nil _ | refine SubE.cons rfl ?_)); done)
              | (refine HV4 (P := opnB cs a (q + 1) = true) ?_ ?_; (focus (rw [e2]; simp [*]; (first | done | omega))); intro e2'; refine HV4 (P := begB cs a (q + 1) = true) ?_ ?_; (focus (rw [e1]; simp [*]; (first | done | omega))); intro e1'; rw [e1', e2']; (repeat (first | exact SubE.nil _ | refine SubE.cons rfl ?_)); done)
              | (refine HV4 (P := opnB cs a (q + 1) = false) ?_ ?_; (focus (rw [e2]; simp [*]; (first | done | omega))); intro e2'; refine HV4 (P := begB cs a (q + 1) = true) ?_ ?_; (focus (rw [e1]; simp [*]; (first | done | omega))); intro e1'; rw [e1', e2']; (repeat (first | exact SubE.nil _ | refine SubE.cons rfl ?_)); done)
              | (refine HV4 (P := opnB cs a (q + 1) = decide ((a : Int) < cs[q].to)) ?_ ?_; (focus (rw [e2]; simp [*]; (first | done | omega))); intro e2'; refine HV4 (P := begB cs a (q + 1) = true) ?_ ?_; (focus (rw [e1]; simp [*]; (first | done | omega))); intro e1'; rw [e1', e2']; (repeat (first | exact SubE.nil _ | refine SubE.cons rfl ?_)); done)
      · obtain rfl : q = cs.length := by omega
        generalize begB cs a cs.length = p at *
        generalize opnB cs a cs.length = r at *
        cases p <;> cases r
        all_goals
          repeat' (first | (refine GO ?_) | (refine GOE ?_; (first | (rintro _ _ ⟨rfl, rfl⟩) | (rintro _ _ ⟨g, rfl, rfl⟩) | (rintro _ _ ⟨A', c', rfl, rfl⟩))) | ((refine GO2 ?_ ?_) <;> intro h <;> (try (repeat (first | with_reducible (replace h := of_decide_eq_true h) | with_reducible (replace h := of_decide_eq_false h) | with_reducible (replace h := bnt h) | with_reducible (replace h := bnf h) | with_reducible (replace h := Int.not_lt.mp h) | with_reducible (replace h := Int.not_le.mp h) | with_reducible (replace h := band_dec h) | with_reducible (replace h := band_decF h) | with_reducible (replace h := bor_dec h) | with_reducible (replace h := bor_decF h)))) <;> (try (exfalso; first | contradiction | omega))) | fail)
          refine At_rounds (a + 1) (by omega) (by omega) ?_ (by exact SUBS)
          rw [hsa]
          (repeat (first | exact SubE.nil _ | refine SubE.cons rfl ?_))
    · have hae : cs[k].from_.toNat = a := by omega
      rw [hae] at hcn
      rw [← hcn]
      rw [← hcn] at hca
      repeat' (first | (refine GO ?_) | (refine GOE ?_; (first | (rintro _ _ ⟨rfl, rfl⟩) | (rintro _ _ ⟨g, rfl, rfl⟩) | (rintro _ _ ⟨A', c', rfl, rfl⟩))) | ((refine GO2 ?_ ?_) <;> intro h <;> (try (repeat (first | with_reducible (replace h := of_decide_eq_true h) | with_reducible (replace h := of_decide_eq_false h) | with_reducible (replace h := bnt h) | with_reducible (replace h := bnf h) | with_reducible (replace h := Int.not_lt.mp h) | with_reducible (replace h := Int.not_le.mp h) | with_reducible (replace h := band_dec h) | with_reducible (replace h := band_decF h) | with_reducible (replace h := bor_dec h) | with_reducible (replace h := bor_decF h)))) <;> (try (exfalso; first | contradiction | omega))) | ((with_reducible (first | apply TD_e2z | apply TD_e3z | apply TL_e | apply TD_e2 | apply TD_e3)); ((with_reducible apply ES_append1 (enc := intEnc) (xx := (calmN cs k : Int))); exact rfl; exact rfl; (repeat (first | with_reducible exact List.mem_cons_self | with_reducible apply List.mem_cons_of_mem)); exact rfl; exact fun _ => rfl; exact fun _ => rfl; (intro A' c'; first | ((repeat (first | with_reducible exact Upd.here _ _ _ | with_reducible apply Upd.there)); done) | (repeat (first | exact Upd.here _ _ _ | apply Upd.there))); (omega); decide; exact rfl); (first | exact rfl | exact ⟨rfl, rfl, rfl⟩); (rintro _ _ ⟨A', c', rfl, rfl⟩); (try refine ⟨SUB, ?_⟩)) | fail)
      apply At_rounds (k + 1, A', c')
      case hE => dsimp only; rw [← hnext]; (repeat (first | exact SubE.nil _ | refine SubE.cons rfl ?_))
      case hS => dsimp only; rw [← hnext]; exact SUBS
      case hμ => (try dsimp only); omega
      case hp => (try dsimp only); omega
  · obtain rfl : k = cs.length := by omega
    rw [calmK_all]
    generalize calmL cs = L at *
    repeat' (first | (refine GO ?_) | (refine GOE ?_; (first | (rintro _ _ ⟨rfl, rfl⟩) | (rintro _ _ ⟨g, rfl, rfl⟩) | (rintro _ _ ⟨A', c', rfl, rfl⟩))) | ((refine GO2 ?_ ?_) <;> intro h <;> (try (repeat (first | with_reducible (replace h := of_decide_eq_true h) | with_reducible (replace h := of_decide_eq_false h) | with_reducible (replace h := bnt h) | with_reducible (replace h := bnf h) | with_reducible (replace h := Int.not_lt.mp h) | with_reducible (replace h := Int.not_le.mp h) | with_reducible (replace h := band_dec h) | with_reducible (replace h := band_decF h) | with_reducible (replace h := bor_dec h) | with_reducible (replace h := bor_decF h)))) <;> (try (exfalso; first | contradiction | omega))) | fail)
    (refine At_ret Try.results49 rfl (fun w' hw => ?_))
    exact ⟨A1, c1, rfl, hw.ownOut rfl (by first | ((repeat (first | with_reducible exact List.mem_cons_self | with_reducible apply List.mem_cons_of_mem)); done) | (repeat (first | exact List.Mem.head _ | apply List.Mem.tail))), hw.below0 rfl⟩
end
end Go.Proofs.Ytiimjppceobkfaa

namespace Go.Proofs.Ytiimjppceobkfaa
open Go.RowKit
section
variable (B : Option Addr) (d : Nat) (cs : List Cl) (w : World) (hA : RdCl w B cs) (h9 : cs.length ≤ 12) (hfr : ∀ q (h : q < cs.length), 0 ≤ cs[q].from_ ∧ cs[q].from_ < 200)
include hA h9 hfr
set_option maxRecDepth 100000 in
set_option maxHeartbeats 4000000 in
theorem calmRel_any : Calls Try.prog 47 #[.slice B cs.length d] w fun e w' => e = .returned (.agg (relCells cs.length (relCalm cs))) ∧ Below w.heap.size w w' := by
  refine calls_T (S := []) [] Try.func47 rfl Try.ntmps47 (by simp) (Mem.nil _) ?_
  repeat' (first | (refine GO ?_) | (refine GOE ?_; (first | (rintro _ _ ⟨rfl, rfl⟩) | (rintro _ _ ⟨g, rfl, rfl⟩) | (rintro _ _ ⟨A', c', rfl, rfl⟩))) | ((refine GO2 ?_ ?_) <;> intro h <;> (try (repeat (first | with_reducible (replace h := of_decide_eq_true h) | with_reducible (replace h := of_decide_eq_false h) | with_reducible (replace h := bnt h) | with_reducible (replace h := bnf h) | with_reducible (replace h := Int.not_lt.mp h) | with_reducible (replace h := Int.not_le.mp h) | with_reducible (replace h := band_dec h) | with_reducible (replace h := band_decF h) | with_reducible (replace h := bor_dec h) | with_reducible (replace h := bor_decF h)))) <;> (try (exfalso; first | contradiction | omega))) | fail)
  obtain ⟨g2, rfl⟩ : ∃ x, x = g := ⟨_, rfl⟩
  repeat' (first | (refine GO ?_) | (refine GOE ?_; (first | (rintro _ _ ⟨rfl, rfl⟩) | (rintro _ _ ⟨g, rfl, rfl⟩) | (rintro _ _ ⟨A', c', rfl, rfl⟩))) | ((refine GO2 ?_ ?_) <;> intro h <;> (try (repeat (first | with_reducible (replace h := of_decide_eq_true h) | with_reducible (replace h := of_decide_eq_false h) | with_reducible (replace h := bnt h) | with_reducible (replace h := bnf h) | with_reducible (replace h := Int.not_lt.mp h) | with_reducible (replace h := Int.not_le.mp h) | with_reducible (replace h := band_dec h) | with_reducible (replace h := band_decF h) | with_reducible (replace h := bor_dec h) | with_reducible (replace h := bor_decF h)))) <;> (try (exfalso; first | contradiction | omega))) | ((with_reducible (first | apply TD_e2z | apply TD_e3z | apply TL_e | apply TD_e2 | apply TD_e3)); ((with_reducible apply ES_callOwn (f := 49)); exact rfl; (intro w hw; exact calmOf_any _ _ cs _ (hw.rd rfl hA) h9 hfr); exact rfl); (first | exact rfl | exact ⟨rfl, rfl, rfl⟩); (rintro _ _ ⟨A, c, rfl, rfl⟩); (try refine ⟨SUB, ?_⟩)) | fail)
  have hLl : (calmL cs).length = cs.length := by simp [calmL]
  have hLg : ∀ i (h : i < cs.length), (calmL cs)[i]'(by rw [hLl]; exact h) = (calmN cs i : Int) := by intro i h; simp [calmL]
  obtain ⟨gr, rfl⟩ : ∃ x, x = g := ⟨_, rfl⟩
  refine T_loop (X := Nat) (fun k => [(14, .int .i64 (k : Nat)), (13, .int .i64 cs.length), (4, .pointer (some ⟨gr, 0, none⟩)), (3, .slice A (calmL cs).length c), (2, .pointer (some ⟨g2, 0, none⟩)), (0, .slice B cs.length d)])
    (fun k => [entBlk gr 69 (relCells cs.length (relN (orP (fun _ _ => false) (calmP cs) k 0) cs.length)), entOwn intEnc 1 3 A c (calmL cs), entBlk g2 69 (relCells 0 (fun _ => 0))]) (fun k => k ≤ cs.length) (fun k => cs.length - k) 0 (by omega) (by (repeat (first | exact SubE.nil _ | refine SubE.cons rfl ?_))) (fun w hw => by rw [orP_0, relN_0]; exact hw) ?_
  intro k hk
  by_cases hkk : k < cs.length
  · repeat' (first | (refine GO ?_) | (refine GOE ?_; (first | (rintro _ _ ⟨rfl, rfl⟩) | (rintro _ _ ⟨g, rfl, rfl⟩) | (rintro _ _ ⟨A', c', rfl, rfl⟩))) | ((refine GO2 ?_ ?_) <;> intro h <;> (try (repeat (first | with_reducible (replace h := of_decide_eq_true h) | with_reducible (replace h := of_decide_eq_false h) | with_reducible (replace h := bnt h) | with_reducible (replace h := bnf h) | with_reducible (replace h := Int.not_lt.mp h) | with_reducible (replace h := Int.not_le.mp h) | with_reducible (replace h := band_dec h) | with_reducible (replace h := band_decF h) | with_reducible (replace h := bor_dec h) | with_reducible (replace h := bor_decF h)))) <;> (try (exfalso; first | contradiction | omega))) | fail)
    refine T_loop (X := Nat) (fun m => [(19, .int .i64 (m : Nat)), (18, .int .i64 cs.length), (5, .int .i64 (k : Nat)), (14, .int .i64 (k : Nat)), (13, .int .i64 cs.length), (4, .pointer (some ⟨gr, 0, none⟩)), (3, .slice A (calmL cs).length c), (2, .pointer (some ⟨g2, 0, none⟩)), (0, .slice B cs.length d)])
      (fun m => [entBlk gr 69 (relCells cs.length (relN (orP (fun _ _ => false) (calmP cs) k m) cs.length)), entOwn intEnc 1 3 A c (calmL cs), entBlk g2 69 (relCells 0 (fun _ => 0))]) (fun m => m ≤ cs.length) (fun m => cs.length - m) 0 (by omega) (by (repeat (first | exact SubE.nil _ | refine SubE.cons rfl ?_))) (fun w hw => hw) ?_
    intro m hml
    by_cases hmm : m < cs.length
    · have hq : calmP cs k m = decide (calmN cs k < calmN cs m) := rfl
      have hgk := hLg k hkk
      have hgm := hLg m hmm
      have hlt := relN_lt (orP (fun _ _ => false) (calmP cs) k m) (n := cs.length) (by omega) k
      have hpm := pow_lt_16 (m := m) (by omega)
      have hyes := relN_add (P := fun _ _ => false) (Q := calmP cs) hkk hmm
      have hno := relN_no (P := fun _ _ => false) (Q := calmP cs) (n := cs.length) (k := k) (m := m)
      have hlt2 := fun h => congrArg (fun f => f k) (hyes h rfl)
      have hlt3 := relN_lt (orP (fun _ _ => false) (calmP cs) k (m + 1)) (n := cs.length) (by omega) k
      obtain ⟨F, hFF⟩ : ∃ F, relN (orP (fun _ _ => false) (calmP cs) k m) cs.length = F := ⟨_, rfl⟩
      rw [hFF] at hyes hno hlt hlt2 ⊢
      have hLm : 0 < (calmL cs).length := by omega
      refine T_own (enc := intEnc) (ls := calmL cs) (by first | ((repeat (first | with_reducible exact List.mem_cons_self | with_reducible apply List.mem_cons_of_mem)); done) | (repeat (first | exact List.Mem.head _ | apply List.Mem.tail))) hLm ?_
      rintro gA rfl
      repeat' (first
        | (refine GG ?_) | (refine GE ?_; (first | (rintro _ _ ⟨rfl, rfl⟩) | (rintro _ _ ⟨g, rfl, rfl⟩) | (rintro _ _ ⟨A', c', rfl, rfl⟩)); (try refine ⟨SUB, ?_⟩)) | ((refine GO2 ?_ ?_) <;> intro h <;> (try (repeat (first | with_reducible (replace h := of_decide_eq_true h) | with_reducible (replace h := of_decide_eq_false h) | with_reducible (replace h := bnt h) | with_reducible (replace h := bnf h) | with_reducible (replace h := Int.not_lt.mp h) | with_reducible (replace h := Int.not_le.mp h) | with_reducible (replace h := band_dec h) | with_reducible (replace h := band_decF h) | with_reducible (replace h := bor_dec h) | with_reducible (replace h := bor_decF h)))) <;> (try (exfalso; first | contradiction | omega))) | (refine GOF ?_ ?_) | ((with_reducible apply T_draw (id := 9) 1000 (OT.seq [(0, 0), (0, 1), (0, 2), (0, 4), (0, 5), (0, 6), (1, 3), (1, 7), (0, 8)] .nil)); kernel_rfl; exact rfl; kernel_rfl; (repeat (first | with_reducible exact Blind.body | with_reducible apply Blind.seq | with_reducible apply Blind.block))) | ((with_reducible apply T_draw (id := 10) 9 (OT.seq [(0, 0), (0, 1), (0, 2), (0, 4), (0, 5), (0, 7), (1, 3), (0, 6), (0, 8), (3, 9)] .nil)); kernel_rfl; exact rfl; kernel_rfl; (repeat (first | with_reducible exact Blind.body | with_reducible apply Blind.seq | with_reducible apply Blind.block))) | ((with_reducible apply TD_q0); (with_reducible apply QS_add16); exact rfl; exact rfl; exact rfl) | ((with_reducible apply TD_q1); (with_reducible apply QS_add16); exact rfl; exact rfl; exact rfl) | fail)
      all_goals
        refine At_rounds (m + 1) (by omega) (by omega) (by (repeat (first | exact SubE.nil _ | refine SubE.cons rfl ?_))) (fun w hw => ?_)
        first
          | (have hQ : calmP cs k m = true := by rw [hq]; exact decide_eq_true (by omega)
             have h3 := hlt2 hQ
             simp only [upd_same] at h3
             rw [← hyes hQ rfl, show F k + 2 ^ m = (F k + 2 ^ m) % 65536 by rw [Nat.mod_eq_of_lt (by omega)]]
             exact hw)
          | (rw [← hno (by rw [hq]; exact decide_eq_false (by omega))]; exact hw)
    · obtain rfl : m = cs.length := by omega
      repeat' (first | (refine GG ?_) | (refine GE ?_; (first | (rintro _ _ ⟨rfl, rfl⟩) | (rintro _ _ ⟨g, rfl, rfl⟩) | (rintro _ _ ⟨A', c', rfl, rfl⟩)); (try refine ⟨SUB, ?_⟩)) | ((refine GO2 ?_ ?_) <;> intro h <;> (try (repeat (first | with_reducible (replace h := of_decide_eq_true h) | with_reducible (replace h := of_decide_eq_false h) | with_reducible (replace h := bnt h) | with_reducible (replace h := bnf h) | with_reducible (replace h := Int.not_lt.mp h) | with_reducible (replace h := Int.not_le.mp h) | with_reducible (replace h := band_dec h) | with_reducible (replace h := band_decF h) | with_reducible (replace h := bor_dec h) | with_reducible (replace h := bor_decF h)))) <;> (try (exfalso; first | contradiction | omega))) | (refine GOF ?_ ?_) | fail)
      refine At_rounds (k + 1) (by omega) (by omega) (by (repeat (first | exact SubE.nil _ | refine SubE.cons rfl ?_))) (fun w hw => ?_)
      rw [← relN_next]
      exact hw
  · obtain rfl : k = cs.length := by omega
    repeat' (first | (refine GO ?_) | (refine GOE ?_; (first | (rintro _ _ ⟨rfl, rfl⟩) | (rintro _ _ ⟨g, rfl, rfl⟩) | (rintro _ _ ⟨A', c', rfl, rfl⟩))) | ((refine GO2 ?_ ?_) <;> intro h <;> (try (repeat (first | with_reducible (replace h := of_decide_eq_true h) | with_reducible (replace h := of_decide_eq_false h) | with_reducible (replace h := bnt h) | with_reducible (replace h := bnf h) | with_reducible (replace h := Int.not_lt.mp h) | with_reducible (replace h := Int.not_le.mp h) | with_reducible (replace h := band_dec h) | with_reducible (replace h := band_decF h) | with_reducible (replace h := bor_dec h) | with_reducible (replace h := bor_decF h)))) <;> (try (exfalso; first | contradiction | omega))) | fail)
    ((with_reducible apply At_retM Try.results47); (repeat (first | exact ResIs.nil | (apply ResIs.tmp; exact rfl) | (apply ResIs.cell; exact rfl; exact Lds.auto))); intro w' hw)
    exact ⟨by rw [← relCalm_done, ← relN_done]; rfl, hw.below0 rfl⟩
end
end Go.Proofs.Ytiimjppceobkfaa
