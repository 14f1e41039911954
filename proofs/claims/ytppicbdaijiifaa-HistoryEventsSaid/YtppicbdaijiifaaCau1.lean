/- Few calls of registers: which histories are taken (plain), and what is so of their calls. -/
import Derived.Test.YtppicbdaijiifaaHist8
set_option linter.unusedSimpArgs false
set_option linter.unusedVariables false
set_option linter.unusedSectionVars false
set_option linter.unnecessarySimpa false
namespace Go.Proofs.Ytppicbdaijiifaa
open Go.RowKit

theorem callsCode_any (A B : Option Addr) (c d : Nat) (ts : List Int) (l : List Ev) (w : World) (hts : ts.length ≤ 9223372036854775807) (hl : l.length ≤ 9223372036854775807) (hT : RdInt w A ts) (hA : RdEv w B l) :
    Calls Try.prog 81 #[.slice A ts.length c, .slice B l.length d] w fun e w' => ∃ A' c', e = .returned (.tuple #[.slice A' (callsR ts l).1.length c', .int .i64 (callsR ts l).2.1, .int .i64 (callsR ts l).2.2]) ∧
      Own Cl.enc 7 64 w' w.heap.size (.slice A' (callsR ts l).1.length c') (callsR ts l).1 ∧ Below w.heap.size w w' := by
  rw [← calls_same]
  exact calls_any A B c d ts l w hts hl hT hA
theorem callsR_len (ts : List Int) (l : List Ev) : (callsR ts l).1.length ≤ 200 := by
  unfold callsR
  split
  · simp
  · split
    · simp
    · split
      · simp
      · have := stP_len ts l l.length
        rw [(run_same ts l l.length).1] at this
        show (stR ts l l.length).length ≤ 200
        omega
/-- what is so of each call that a reading keeps -/
structure ClOk (ts : List Int) (i : Int) (c : Cl) : Prop where
  who : 0 ≤ c.who ∧ c.who < 8
  thing : 0 ≤ c.thing ∧ c.thing < ts.length
  kind : (kindsL (ts.getD c.thing.toNat 0)).contains c.kind = true
  arg : argB c.kind c.arg = true
  place : 0 ≤ c.from_ ∧ c.from_ < i
structure ClsOk (ts : List Int) (i : Int) (cs : List Cl) : Prop where
  each : ∀ q (h : q < cs.length), ClOk ts i cs[q]
  rising : ∀ p q (h1 : p < q) (h : q < cs.length), cs[p].from_ < cs[q].from_
theorem ClOk.mono {ts : List Int} {i j : Int} {c : Cl} (h : ClOk ts i c) (hij : i ≤ j) : ClOk ts j c := ⟨h.who, h.thing, h.kind, h.arg, by have := h.place; omega⟩
theorem clsOk_step {ts : List Int} {i : Int} {cs : List Cl} (x : Ev) (hi : 0 ≤ i) (h : ClsOk ts i cs) : ClsOk ts (i + 1) (evR ts cs i x).2 := by
  have keep : ClsOk ts (i + 1) cs := ⟨fun q hq => (h.each q hq).mono (by omega), h.rising⟩
  unfold evR
  by_cases hf : formBad ts x = true
  · rw [if_pos hf]; exact keep
  · rw [if_neg hf]
    have hf' : formBad ts x = false := by simpa using hf
    by_cases hk : x.kind = 0
    · rw [if_pos hk]
      split
      · exact keep
      · split
        · rename_i hz hc
          obtain ⟨m, hm⟩ : ∃ m, (openTo cs x.who cs.length).toNat = m := ⟨_, rfl⟩
          have hlt := openTo_lt cs x.who cs.length
          have hml : m < cs.length := by omega
          rw [hm]
          have hd : cs.getD m default = cs[m] := by simp [hml]
          rw [hd]
          dsimp only
          refine ⟨fun q hq => ?_, fun p q hpq hq => ?_⟩
          · have hq' : q < cs.length := by simpa using hq
            have hc' := keep.each q hq'
            rw [List.getElem_set]
            split
            · rename_i e
              subst e
              exact ⟨hc'.who, hc'.thing, hc'.kind, hc'.arg, hc'.place⟩
            · exact hc'
          · have hq' : q < cs.length := by simpa using hq
            have hr := h.rising p q hpq hq'
            rw [List.getElem_set, List.getElem_set]
            split <;> split <;> (subst_vars; first | exact hr | omega)
        · exact keep
    · rw [if_neg hk]
      split
      · exact keep
      · split
        · exact keep
        · rename_i hb _
          simp only [formBad, Bool.or_eq_false_iff, decide_eq_false_iff_not] at hf'
          have hb' : ((kindsL (ts.getD x.thing.toNat 0)).contains x.kind && argB x.kind x.value) = true := by simpa using hb
          rw [Bool.and_eq_true] at hb'
          dsimp only
          refine ⟨fun q hq => ?_, fun p q hpq hq => ?_⟩
          · by_cases e : q < cs.length
            · rw [List.getElem_append_left e]; exact keep.each q e
            · rw [List.getElem_append_right (by omega)]
              simp only [List.getElem_singleton]
              exact ⟨by dsimp only; omega, by dsimp only; omega, hb'.1, hb'.2, by dsimp only; omega⟩
          · simp only [List.length_append, List.length_cons, List.length_nil] at hq
            by_cases e : q < cs.length
            · rw [List.getElem_append_left e, List.getElem_append_left (by omega)]; exact h.rising p q hpq e
            · rw [List.getElem_append_left (show p < cs.length by omega), List.getElem_append_right (by omega)]
              simp only [List.getElem_singleton]
              have := (h.each p (by omega)).place
              omega
theorem clsOk_st (ts : List Int) (l : List Ev) : ∀ k : Nat, ClsOk ts (k : Int) (stR ts l k)
  | 0 => ⟨fun q h => by simp [stR] at h, fun p q _ h => by simp [stR] at h⟩
  | k + 1 => by
    have := clsOk_step (ts := ts) (i := k) (l.getD k default) (by omega) (clsOk_st ts l k)
    rw [stR]
    exact this
/-- the calls that a reading gives -/
theorem callsR_inv {ts : List Int} {l : List Ev} (h : (callsR ts l).2.2 = 0) : typesOk ts = true ∧ l.length ≤ 200 ∧ (∀ j, j < l.length → erR ts l j = 0) ∧ (callsR ts l).1 = stR ts l l.length := by
  by_cases h1 : typesOk ts = true
  · by_cases h2 : 200 < l.length
    · rw [callsR_long h1 h2] at h; cases h
    · rcases Nat.lt_or_ge (failR ts l) l.length with hf | hf
      · exfalso
        have hk : ∃ k, k < l.length ∧ (∀ j, j < k → erR ts l j = 0) ∧ erR ts l k ≠ 0 := by
          unfold failR at hf
          cases hc : (List.range l.length).find? fun k => decide (erR ts l k ≠ 0) with
          | none => rw [hc] at hf; simp at hf
          | some k =>
            rw [List.find?_range_eq_some] at hc
            exact ⟨k, by simpa using hc.2.1, fun j hj => by simpa using hc.2.2 j hj, by simpa using hc.1⟩
        obtain ⟨k, a, b, c⟩ := hk
        rw [callsR_err h1 (by omega) a b rfl c] at h
        exact c h
      · have hall : ∀ j, j < l.length → erR ts l j = 0 := by
          intro j hj
          refine Decidable.byContradiction fun hn => ?_
          unfold failR at hf
          cases hc : (List.range l.length).find? fun k => decide (erR ts l k ≠ 0) with
          | none =>
            rw [List.find?_eq_none] at hc
            have := hc j (by simpa using hj)
            simp only [decide_eq_true_eq] at this
            exact this hn
          | some k =>
            rw [hc] at hf
            rw [List.find?_range_eq_some] at hc
            have h3 : k < l.length := by simpa using hc.2.1
            simp at hf
            omega
        refine ⟨h1, by omega, hall, ?_⟩
        rw [callsR_ok h1 (by omega) hall]
  · rw [callsR_types (by simpa using h1)] at h; cases h
/-- the same value written twice to one -/
def dupB (x y : Cl) : Bool := decide (x.kind = 1) && (decide (y.kind = 1) && (decide (x.thing = y.thing) && decide (x.arg = y.arg)))
theorem dupB_symm (x y : Cl) : dupB x y = dupB y x := by
  rw [Bool.eq_iff_iff]
  simp only [dupB, Bool.and_eq_true, decide_eq_true_eq]
  constructor <;> (rintro ⟨a, b, c, d⟩; exact ⟨b, a, c.symm, d.symm⟩)
def regsOk (ts : List Int) : Prop := ∀ j (h : j < ts.length), ts[j] = 1
def callOk (cs : List Cl) (i : Nat) : Prop := ∀ h : i < cs.length, cs[i].to ≠ -1 ∧ ∀ j (hj : j < i), dupB cs[i] cs[j] = false
def goodC (ts : List Int) (cs : List Cl) : Prop := regsOk ts ∧ ∀ i, i < cs.length → callOk cs i
open Classical in
noncomputable def fewR (ts : List Int) (l : List Ev) : List Cl × Int :=
  if (callsR ts l).2.2 ≠ 0 then ([], (callsR ts l).2.2)
  else if ¬ goodC ts (callsR ts l).1 then ([], 6)
  else if 7 < (callsR ts l).1.length then ([], 2)
  else ((callsR ts l).1, 0)
theorem fewR_err {ts : List Int} {l : List Ev} {e : Int} (h : (callsR ts l).2.2 = e) (hn : ¬ e = 0) : fewR ts l = ([], e) := by
  unfold fewR; rw [if_pos (by rw [h]; exact hn), h]
theorem fewR_class {ts : List Int} {l : List Ev} {cs : List Cl} {k : Int} (h : callsR ts l = (cs, k, 0)) (hn : ¬ goodC ts cs) : fewR ts l = ([], 6) := by
  unfold fewR; rw [if_neg (by rw [h]; simp), h]; dsimp only; rw [if_pos hn]
theorem fewR_large {ts : List Int} {l : List Ev} {cs : List Cl} {k : Int} (h : callsR ts l = (cs, k, 0)) (hn : goodC ts cs) (h7 : 7 < cs.length) : fewR ts l = ([], 2) := by
  unfold fewR; rw [if_neg (by rw [h]; simp), h]; dsimp only; rw [if_neg (by simpa using hn), if_pos h7]
theorem fewR_ok {ts : List Int} {l : List Ev} {cs : List Cl} {k : Int} (h : callsR ts l = (cs, k, 0)) (hn : goodC ts cs) (h7 : ¬ 7 < cs.length) : fewR ts l = (cs, 0) := by
  unfold fewR; rw [if_neg (by rw [h]; simp), h]; dsimp only; rw [if_neg (by simpa using hn), if_neg h7]
/-- what the calls are, where there are few -/
structure Few (cs : List Cl) : Prop where
  len : cs.length ≤ 7
  who : ∀ q (h : q < cs.length), 0 ≤ cs[q].who ∧ cs[q].who < 8
  thing : ∀ q (h : q < cs.length), 0 ≤ cs[q].thing ∧ cs[q].thing < 4
  kind : ∀ q (h : q < cs.length), cs[q].kind = 1 ∨ cs[q].kind = 2
  rising : ∀ p q (h1 : p < q) (h : q < cs.length), cs[p].from_ < cs[q].from_
theorem few_of {ts : List Int} {l : List Ev} (h : (fewR ts l).2 = 0) : Few (fewR ts l).1 := by
  by_cases h0 : (callsR ts l).2.2 = 0
  · obtain ⟨cs, k, z, hc⟩ : ∃ cs k z, callsR ts l = (cs, k, z) := ⟨_, _, _, rfl⟩
    have hz : z = 0 := by rw [hc] at h0; exact h0
    subst hz
    obtain ⟨t1, _, _, t4⟩ := callsR_inv h0
    by_cases hg : goodC ts cs
    · by_cases h7 : 7 < cs.length
      · rw [fewR_large hc hg h7] at h; cases h
      · rw [fewR_ok hc hg h7]
        dsimp only
        have hcs : cs = stR ts l l.length := by rw [hc] at t4; exact t4
        have hI := clsOk_st ts l l.length
        rw [← hcs] at hI
        have hlen : ts.length ≤ 4 := by
          unfold typesOk at t1
          simp only [Bool.and_eq_true, decide_eq_true_eq] at t1
          exact t1.1.2
        refine ⟨by omega, fun q hq => (hI.each q hq).who, fun q hq => ?_, fun q hq => ?_, hI.rising⟩
        · have := (hI.each q hq).thing; omega
        · have hk := (hI.each q hq).kind
          have ht := (hI.each q hq).thing
          have e : ts.getD cs[q].thing.toNat 0 = 1 := by
            rw [List.getD_eq_getElem?_getD, List.getElem?_eq_getElem (by omega)]
            exact hg.1 _ _
          rw [e] at hk
          simp [kindsL] at hk
          exact hk
    · rw [fewR_class hc hg] at h; cases h
  · rw [fewR_err rfl h0] at h
    exact absurd h h0
end Go.Proofs.Ytppicbdaijiifaa
