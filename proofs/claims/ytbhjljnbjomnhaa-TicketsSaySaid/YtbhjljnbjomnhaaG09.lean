/- Lemmas for the walks (Cau1, Cto, Bd, Stp, Tk1, Idx, CtCall, P). No condition. -/
import Derived.Test.YtbhjljnbjomnhaaG08
import Derived.Test.YtbhjljnbjomnhaaG05
import Derived.Test.YtbhjljnbjomnhaaG04
import Derived.Test.YtbhjljnbjomnhaaG06
import Derived.Test.YtbhjljnbjomnhaaG07
set_option linter.unusedSimpArgs false
set_option linter.unusedVariables false
set_option linter.unusedSectionVars false
set_option linter.unnecessarySimpa false
namespace Go.Proofs.Ytbhjljnbjomnhaa
open Go.RowKit

theorem callsCode_any (A B : Option Addr) (c d : Nat) (ts : List Int) (l : List Ev) (w : World) (hts : ts.length ≤ 9223372036854775807) (hl : l.length ≤ 9223372036854775807) (hT : RdInt w A ts) (hA : RdEv w B l) :
    Calls Try.prog 98 #[.slice A ts.length c, .slice B l.length d] w fun e w' => ∃ A' c', e = .returned (.tuple #[.slice A' (callsR ts l).1.length c', .int .i64 (callsR ts l).2.1, .int .i64 (callsR ts l).2.2]) ∧
      Own Cl.enc 7 43 w' w.heap.size (.slice A' (callsR ts l).1.length c') (callsR ts l).1 ∧ Below w.heap.size w w' := by
  rw [← calls_same]
  exact calls_any A B c d ts l w hts hl hT hA
theorem callsR_len (ts : List Int) (l : List Ev) : (callsR ts l).1.length ≤ 200 := by
  unfold callsR
  split
  · simp
  · split
    · simp
    · split
      · simp
      · have := stP_len ts l l.length
        rw [(run_same ts l l.length).1] at this
        show (stR ts l l.length).length ≤ 200
        omega
/-- what is so of each call that a reading keeps -/
structure ClOk (ts : List Int) (i : Int) (c : Cl) : Prop where
  who : 0 ≤ c.who ∧ c.who < 8
  thing : 0 ≤ c.thing ∧ c.thing < ts.length
  kind : (kindsL (ts.getD c.thing.toNat 0)).contains c.kind = true
  arg : argB c.kind c.arg = true
  place : 0 ≤ c.from_ ∧ c.from_ < i
structure ClsOk (ts : List Int) (i : Int) (cs : List Cl) : Prop where
  each : ∀ q (h : q < cs.length), ClOk ts i cs[q]
  rising : ∀ p q (h1 : p < q) (h : q < cs.length), cs[p].from_ < cs[q].from_
theorem ClOk.mono {ts : List Int} {i j : Int} {c : Cl} (h : ClOk ts i c) (hij : i ≤ j) : ClOk ts j c := ⟨h.who, h.thing, h.kind, h.arg, by have := h.place; omega⟩
theorem clsOk_step {ts : List Int} {i : Int} {cs : List Cl} (x : Ev) (hi : 0 ≤ i) (h : ClsOk ts i cs) : ClsOk ts (i + 1) (evR ts cs i x).2 := by
  have keep : ClsOk ts (i + 1) cs := ⟨fun q hq => (h.each q hq).mono (by omega), h.rising⟩
  unfold evR
  by_cases hf : formBad ts x = true
  · rw [if_pos hf]; exact keep
  · rw [if_neg hf]
    have hf' : formBad ts x = false := by simpa using hf
    by_cases hk : x.kind = 0
    · rw [if_pos hk]
      split
      · exact keep
      · split
        · rename_i hz hc
          obtain ⟨m, hm⟩ : ∃ m, (openTo cs x.who cs.length).toNat = m := ⟨_, rfl⟩
          have hlt := openTo_lt cs x.who cs.length
          have hml : m < cs.length := by omega
          rw [hm]
          have hd : cs.getD m default = cs[m] := by simp [hml]
          rw [hd]
          dsimp only
          refine ⟨fun q hq => ?_, fun p q hpq hq => ?_⟩
          · have hq' : q < cs.length := by simpa using hq
            have hc' := keep.each q hq'
            rw [List.getElem_set]
            split
            · rename_i e
              subst e
              exact ⟨hc'.who, hc'.thing, hc'.kind, hc'.arg, hc'.place⟩
            · exact hc'
          · have hq' : q < cs.length := by simpa using hq
            have hr := h.rising p q hpq hq'
            rw [List.getElem_set, List.getElem_set]
            split <;> split <;> (subst_vars; first | exact hr | omega)
        · exact keep
    · rw [if_neg hk]
      split
      · exact keep
      · split
        · exact keep
        · rename_i hb _
          simp only [formBad, Bool.or_eq_false_iff, decide_eq_false_iff_not] at hf'
          have hb' : ((kindsL (ts.getD x.thing.toNat 0)).contains x.kind && argB x.kind x.value) = true := by simpa using hb
          rw [Bool.and_eq_true] at hb'
          dsimp only
          refine ⟨fun q hq => ?_, fun p q hpq hq => ?_⟩
          · by_cases e : q < cs.length
            · rw [List.getElem_append_left e]; exact keep.each q e
            · rw [List.getElem_append_right (by omega)]
              simp only [List.getElem_singleton]
              exact ⟨by dsimp only; omega, by dsimp only; omega, hb'.1, hb'.2, by dsimp only; omega⟩
          · simp only [List.length_append, List.length_cons, List.length_nil] at hq
            by_cases e : q < cs.length
            · rw [List.getElem_append_left e, List.getElem_append_left (by omega)]; exact h.rising p q hpq e
            · rw [List.getElem_append_left (show p < cs.length by omega), List.getElem_append_right (by omega)]
              simp only [List.getElem_singleton]
              have := (h.each p (by omega)).place
              omega
theorem clsOk_st (ts : List Int) (l : List Ev) : ∀ k : Nat, ClsOk ts (k : Int) (stR ts l k)
  | 0 => ⟨fun q h => by simp [stR] at h, fun p q _ h => by simp [stR] at h⟩
  | k + 1 => by
    have := clsOk_step (ts := ts) (i := k) (l.getD k default) (by omega) (clsOk_st ts l k)
    rw [stR]
    exact this
/-- the calls that a reading gives -/
theorem callsR_inv {ts : List Int} {l : List Ev} (h : (callsR ts l).2.2 = 0) : typesOk ts = true ∧ l.length ≤ 200 ∧ (∀ j, j < l.length → erR ts l j = 0) ∧ (callsR ts l).1 = stR ts l l.length := by
  by_cases h1 : typesOk ts = true
  · by_cases h2 : 200 < l.length
    · rw [callsR_long h1 h2] at h; cases h
    · rcases Nat.lt_or_ge (failR ts l) l.length with hf | hf
      · exfalso
        have hk : ∃ k, k < l.length ∧ (∀ j, j < k → erR ts l j = 0) ∧ erR ts l k ≠ 0 := by
          unfold failR at hf
          cases hc : (List.range l.length).find? fun k => decide (erR ts l k ≠ 0) with
          | none => rw [hc] at hf; simp at hf
          | some k =>
            rw [List.find?_range_eq_some] at hc
            exact ⟨k, by simpa using hc.2.1, fun j hj => by simpa using hc.2.2 j hj, by simpa using hc.1⟩
        obtain ⟨k, a, b, c⟩ := hk
        rw [callsR_err h1 (by omega) a b rfl c] at h
        exact c h
      · have hall : ∀ j, j < l.length → erR ts l j = 0 := by
          intro j hj
          refine Decidable.byContradiction fun hn => ?_
          unfold failR at hf
          cases hc : (List.range l.length).find? fun k => decide (erR ts l k ≠ 0) with
          | none =>
            rw [List.find?_eq_none] at hc
            have := hc j (by simpa using hj)
            simp only [decide_eq_true_eq] at this
            exact this hn
          | some k =>
            rw [hc] at hf
            rw [List.find?_range_eq_some] at hc
            have h3 : k < l.length := by simpa using hc.2.1
            simp at hf
            omega
        refine ⟨h1, by omega, hall, ?_⟩
        rw [callsR_ok h1 (by omega) hall]
  · rw [callsR_types (by simpa using h1)] at h; cases h
/-- the same value written twice to one -/
def dupB (x y : Cl) : Bool := decide (x.kind = 1) && (decide (y.kind = 1) && (decide (x.thing = y.thing) && decide (x.arg = y.arg)))
theorem dupB_symm (x y : Cl) : dupB x y = dupB y x := by
  rw [Bool.eq_iff_iff]
  simp only [dupB, Bool.and_eq_true, decide_eq_true_eq]
  constructor <;> (rintro ⟨a, b, c, d⟩; exact ⟨b, a, c.symm, d.symm⟩)
def regsOk (ts : List Int) : Prop := ∀ j (h : j < ts.length), ts[j] = 1
def callOk (cs : List Cl) (i : Nat) : Prop := ∀ h : i < cs.length, cs[i].to ≠ -1 ∧ ∀ j (hj : j < i), dupB cs[i] cs[j] = false
def goodC (ts : List Int) (cs : List Cl) : Prop := regsOk ts ∧ ∀ i, i < cs.length → callOk cs i
open Classical in
noncomputable def fewR (ts : List Int) (l : List Ev) : List Cl × Int :=
  if (callsR ts l).2.2 ≠ 0 then ([], (callsR ts l).2.2)
  else if ¬ goodC ts (callsR ts l).1 then ([], 6)
  else if 7 < (callsR ts l).1.length then ([], 2)
  else ((callsR ts l).1, 0)
theorem fewR_err {ts : List Int} {l : List Ev} {e : Int} (h : (callsR ts l).2.2 = e) (hn : ¬ e = 0) : fewR ts l = ([], e) := by
  unfold fewR; rw [if_pos (by rw [h]; exact hn), h]
theorem fewR_class {ts : List Int} {l : List Ev} {cs : List Cl} {k : Int} (h : callsR ts l = (cs, k, 0)) (hn : ¬ goodC ts cs) : fewR ts l = ([], 6) := by
  unfold fewR; rw [if_neg (by rw [h]; simp), h]; dsimp only; rw [if_pos hn]
theorem fewR_large {ts : List Int} {l : List Ev} {cs : List Cl} {k : Int} (h : callsR ts l = (cs, k, 0)) (hn : goodC ts cs) (h7 : 7 < cs.length) : fewR ts l = ([], 2) := by
  unfold fewR; rw [if_neg (by rw [h]; simp), h]; dsimp only; rw [if_neg (by simpa using hn), if_pos h7]
theorem fewR_ok {ts : List Int} {l : List Ev} {cs : List Cl} {k : Int} (h : callsR ts l = (cs, k, 0)) (hn : goodC ts cs) (h7 : ¬ 7 < cs.length) : fewR ts l = (cs, 0) := by
  unfold fewR; rw [if_neg (by rw [h]; simp), h]; dsimp only; rw [if_neg (by simpa using hn), if_neg h7]
/-- what the calls are, where there are few -/
structure Few (cs : List Cl) : Prop where
  len : cs.length ≤ 7
  who : ∀ q (h : q < cs.length), 0 ≤ cs[q].who ∧ cs[q].who < 8
  thing : ∀ q (h : q < cs.length), 0 ≤ cs[q].thing ∧ cs[q].thing < 4
  kind : ∀ q (h : q < cs.length), cs[q].kind = 1 ∨ cs[q].kind = 2
  rising : ∀ p q (h1 : p < q) (h : q < cs.length), cs[p].from_ < cs[q].from_
theorem few_of {ts : List Int} {l : List Ev} (h : (fewR ts l).2 = 0) : Few (fewR ts l).1 := by
  by_cases h0 : (callsR ts l).2.2 = 0
  · obtain ⟨cs, k, z, hc⟩ : ∃ cs k z, callsR ts l = (cs, k, z) := ⟨_, _, _, rfl⟩
    have hz : z = 0 := by rw [hc] at h0; exact h0
    subst hz
    obtain ⟨t1, _, _, t4⟩ := callsR_inv h0
    by_cases hg : goodC ts cs
    · by_cases h7 : 7 < cs.length
      · rw [fewR_large hc hg h7] at h; cases h
      · rw [fewR_ok hc hg h7]
        dsimp only
        have hcs : cs = stR ts l l.length := by rw [hc] at t4; exact t4
        have hI := clsOk_st ts l l.length
        rw [← hcs] at hI
        have hlen : ts.length ≤ 4 := by
          unfold typesOk at t1
          simp only [Bool.and_eq_true, decide_eq_true_eq] at t1
          exact t1.1.2
        refine ⟨by omega, fun q hq => (hI.each q hq).who, fun q hq => ?_, fun q hq => ?_, hI.rising⟩
        · have := (hI.each q hq).thing; omega
        · have hk := (hI.each q hq).kind
          have ht := (hI.each q hq).thing
          have e : ts.getD cs[q].thing.toNat 0 = 1 := by
            rw [List.getD_eq_getElem?_getD, List.getElem?_eq_getElem (by omega)]
            exact hg.1 _ _
          rw [e] at hk
          simp [kindsL] at hk
          exact hk
    · rw [fewR_class hc hg] at h; cases h
  · rw [fewR_err rfl h0] at h
    exact absurd h h0
end Go.Proofs.Ytbhjljnbjomnhaa

namespace Go.Proofs.Ytbhjljnbjomnhaa
open Go.RowKit

/-- what is so of the times of the calls that a reading keeps -/
structure ClsTo (i : Int) (cs : List Cl) : Prop where
  to : ∀ q (h : q < cs.length), cs[q].to = -1 ∨ (cs[q].from_ < cs[q].to ∧ cs[q].to < i)
  one : ∀ p q (h1 : p < q) (h : q < cs.length), cs[p].who = cs[q].who → cs[p].to ≠ -1 ∧ cs[p].to < cs[q].from_
theorem clsTo_step {ts : List Int} {i : Int} {cs : List Cl} (x : Ev) (hi : 0 ≤ i) (hp : ∀ q (h : q < cs.length), cs[q].from_ < i) (h : ClsTo i cs) : ClsTo (i + 1) (evR ts cs i x).2 := by
  have keep : ClsTo (i + 1) cs := ⟨fun q hq => by rcases h.to q hq with h1 | h1; exact .inl h1; exact .inr ⟨h1.1, by omega⟩, h.one⟩
  unfold evR
  by_cases hf : formBad ts x = true
  · rw [if_pos hf]; exact keep
  · rw [if_neg hf]
    by_cases hk : x.kind = 0
    · rw [if_pos hk]
      split
      · exact keep
      · split
        · rename_i hz hc
          have hlt := openTo_lt cs x.who cs.length
          obtain ⟨m, hm, hml, hmw, hmt⟩ := openTo_at (cs := cs) (who := x.who) cs.length (by omega)
          have hmt' : (openTo cs x.who cs.length).toNat = m := by omega
          rw [hmt']
          have hd : cs.getD m default = cs[m] := by simp [hml]
          rw [hd] at hmw hmt ⊢
          dsimp only
          refine ⟨fun q hq => ?_, fun p q hpq hq => ?_⟩
          · have hq' : q < cs.length := by simpa using hq
            rw [List.getElem_set]
            split
            · exact .inr ⟨hp m hml, by dsimp only; omega⟩
            · exact keep.to q hq'
          · have hq' : q < cs.length := by simpa using hq
            have ho := h.one p q hpq hq'
            rw [List.getElem_set, List.getElem_set]
            split <;> split
            · omega
            · rename_i e1 e2
              subst e1
              intro e
              exact absurd hmt (ho e).1
            · rename_i e1 e2
              subst e2
              exact ho
            · exact ho
        · exact keep
    · rw [if_neg hk]
      split
      · exact keep
      · split
        · exact keep
        · rename_i hop
          dsimp only
          refine ⟨fun q hq => ?_, fun p q hpq hq => ?_⟩
          · by_cases e : q < cs.length
            · rw [List.getElem_append_left e]; exact keep.to q e
            · rw [List.getElem_append_right (by omega)]
              simp
          · simp only [List.length_append, List.length_cons, List.length_nil] at hq
            by_cases e : q < cs.length
            · rw [List.getElem_append_left e, List.getElem_append_left (by omega)]; exact h.one p q hpq e
            · have hpl : p < cs.length := by omega
              rw [List.getElem_append_left hpl, List.getElem_append_right (by omega)]
              simp only [List.getElem_singleton]
              intro ew
              have hd : cs.getD p default = cs[p] := by simp [hpl]
              have hto : cs[p].to ≠ -1 := fun et => by
                have h1 := openTo_some (cs := cs) (who := x.who) (j := p) cs.length hpl (by rw [hd]; exact ⟨ew, et⟩)
                have := openTo_lt cs x.who cs.length
                omega
              refine ⟨hto, ?_⟩
              rcases h.to p hpl with h1 | h1
              · exact absurd h1 hto
              · exact h1.2
theorem clsTo_st (ts : List Int) (l : List Ev) : ∀ k : Nat, ClsTo (k : Int) (stR ts l k)
  | 0 => ⟨fun q h => by simp [stR] at h, fun p q _ h => by simp [stR] at h⟩
  | k + 1 => by
    have := clsTo_step (ts := ts) (i := k) (l.getD k default) (by omega) (fun q hq => ((clsOk_st ts l k).each q hq).place.2) (clsTo_st ts l k)
    rw [stR]
    exact this
/-- what else is so of them -/
structure ClsMore (i : Int) (cs : List Cl) : Prop where
  lt : ∀ q (h : q < cs.length), cs[q].to < i ∧ cs[q].from_ < i ∧ 0 ≤ cs[q].from_
  ne : ∀ p q (h1 : p < cs.length) (h2 : q < cs.length), cs[p].to ≠ cs[q].from_
  res : ∀ q (h : q < cs.length), cs[q].to = -1 → cs[q].res = 0
  ans : ∀ q (h : q < cs.length), cs[q].to ≠ -1 → ansB cs[q].kind cs[q].res = true
theorem clsMore_step {ts : List Int} {i : Int} {cs : List Cl} (x : Ev) (hi : 0 ≤ i) (h : ClsMore i cs) : ClsMore (i + 1) (evR ts cs i x).2 := by
  have keep : ClsMore (i + 1) cs := ⟨fun q hq => by have := h.lt q hq; omega, h.ne, h.res, h.ans⟩
  unfold evR
  by_cases hf : formBad ts x = true
  · rw [if_pos hf]; exact keep
  · rw [if_neg hf]
    by_cases hk : x.kind = 0
    · rw [if_pos hk]
      split
      · exact keep
      · split
        · rename_i hz hc
          have hlt := openTo_lt cs x.who cs.length
          obtain ⟨m, hm, hml, hmw, hmt⟩ := openTo_at (cs := cs) (who := x.who) cs.length (by omega)
          have hmt' : (openTo cs x.who cs.length).toNat = m := by omega
          rw [hmt'] at hc ⊢
          have hd : cs.getD m default = cs[m] := by simp [hml]
          rw [hd] at hmw hmt hc ⊢
          dsimp only
          have hfr : ∀ q (hq : q < (cs.set m { cs[m] with res := x.value, to := i }).length), ((cs.set m { cs[m] with res := x.value, to := i })[q]).from_ = (cs[q]'(by simpa using hq)).from_ := fun q hq => by
            rw [List.getElem_set]
            split
            · rename_i e; subst e; rfl
            · rfl
          refine ⟨fun q hq => ?_, fun p q hp hq => ?_, fun q hq => ?_, fun q hq => ?_⟩
          · have hq' : q < cs.length := by simpa using hq
            have := h.lt q hq'
            rw [hfr, List.getElem_set]
            split
            · dsimp only; omega
            · omega
          · have hp' : p < cs.length := by simpa using hp
            have hq' : q < cs.length := by simpa using hq
            have h1 := h.lt q hq'
            have h2 := h.ne p q hp' hq'
            rw [hfr, List.getElem_set]
            split
            · dsimp only; omega
            · exact h2
          · have hq' : q < cs.length := by simpa using hq
            rw [List.getElem_set]
            split
            · dsimp only; intro e; omega
            · exact h.res q hq'
          · have hq' : q < cs.length := by simpa using hq
            rw [List.getElem_set]
            split
            · dsimp only; intro _; exact hc.2
            · exact h.ans q hq'
        · exact keep
    · rw [if_neg hk]
      split
      · exact keep
      · split
        · exact keep
        · rename_i hop
          dsimp only
          have hlast : ∀ q (hq : q < (cs ++ [(⟨x.who, x.thing, x.kind, x.value, 0, i, -1⟩ : Cl)]).length), (∃ hq' : q < cs.length, (cs ++ [(⟨x.who, x.thing, x.kind, x.value, 0, i, -1⟩ : Cl)])[q] = cs[q]) ∨ (cs ++ [(⟨x.who, x.thing, x.kind, x.value, 0, i, -1⟩ : Cl)])[q] = ⟨x.who, x.thing, x.kind, x.value, 0, i, -1⟩ := fun q hq => by
            by_cases e : q < cs.length
            · exact .inl ⟨e, List.getElem_append_left e⟩
            · right
              rw [List.getElem_append_right (by omega)]
              simp
          refine ⟨fun q hq => ?_, fun p q hp hq => ?_, fun q hq => ?_, fun q hq => ?_⟩
          · rcases hlast q hq with ⟨e, e1⟩ | e1
            · rw [e1]; have := h.lt q e; omega
            · rw [e1]; dsimp only; omega
          · rcases hlast q hq with ⟨e, e1⟩ | e1 <;> rcases hlast p hp with ⟨g, g1⟩ | g1
            · rw [e1, g1]; exact h.ne p q g e
            · rw [e1, g1]; have := h.lt q e; dsimp only; omega
            · rw [e1, g1]; have := h.lt p g; dsimp only; omega
            · rw [e1, g1]; dsimp only; omega
          · rcases hlast q hq with ⟨e, e1⟩ | e1
            · rw [e1]; exact h.res q e
            · rw [e1]; exact fun _ => rfl
          · rcases hlast q hq with ⟨e, e1⟩ | e1
            · rw [e1]; exact h.ans q e
            · rw [e1]; dsimp only; intro e2; exact absurd rfl e2
theorem clsMore_st (ts : List Int) (l : List Ev) : ∀ k : Nat, ClsMore (k : Int) (stR ts l k)
  | 0 => ⟨fun q h => by simp [stR] at h, fun p q h => by simp [stR] at h, fun q h => by simp [stR] at h, fun q h => by simp [stR] at h⟩
  | k + 1 => by
    have := clsMore_step (ts := ts) (i := k) (l.getD k default) (by omega) (clsMore_st ts l k)
    rw [stR]
    exact this
/-- all that is so of the calls of a reading -/
theorem callsR_all {ts : List Int} {l : List Ev} (h : (callsR ts l).2.2 = 0) : l.length ≤ 200 ∧ ClsOk ts 200 (callsR ts l).1 ∧ ClsTo 200 (callsR ts l).1 ∧ ClsMore 200 (callsR ts l).1 := by
  obtain ⟨h1, h2, _, h4⟩ := callsR_inv h
  have hc := clsOk_st ts l l.length
  have ht := clsTo_st ts l l.length
  have hm := clsMore_st ts l l.length
  rw [← h4] at hc ht hm
  exact ⟨h2, ⟨fun q hq => (hc.each q hq).mono (by omega), hc.rising⟩, ⟨fun q hq => by rcases ht.to q hq with h1 | h1; exact .inl h1; exact .inr ⟨h1.1, Int.lt_of_lt_of_le h1.2 (by omega)⟩, ht.one⟩,
    ⟨fun q hq => by have := hm.lt q hq; omega, hm.ne, hm.res, hm.ans⟩⟩
end Go.Proofs.Ytbhjljnbjomnhaa

namespace Go.Proofs.Ytbhjljnbjomnhaa
open Go.RowKit

structure Bd where
  kind : Int
  a : Int
  b : Int
  deriving DecidableEq, Inhabited
def Bd.enc (x : Bd) : List Value := [.int .i64 x.kind, .int .i64 x.a, .int .i64 x.b]
def clK (cs : List Cl) (i : Nat) : Cl := cs.getD i default
theorem clK_eq {cs : List Cl} {i : Nat} (h : i < cs.length) : clK cs i = cs[i] := by simp [clK, h]
/-- the first place where something is so; -1: there is none -/
def ixN (n : Nat) (P : Nat → Bool) : Int := match firstN n P with | some k => (k : Int) | none => -1
theorem ixN_none {n : Nat} {P : Nat → Bool} (h : ∀ i, i < n → P i = false) : ixN n P = -1 := by
  unfold ixN; rw [firstN_none h]
theorem ixN_at {n i : Nat} {P : Nat → Bool} (hi : i < n) (h1 : ∀ j, j < i → P j = false) (h : P i = true) : ixN n P = (i : Int) := by
  unfold ixN; rw [firstN_at hi h1 h]
theorem ixN_cases (n : Nat) (P : Nat → Bool) : (ixN n P = -1 ∧ ∀ i, i < n → P i = false) ∨ ∃ k : Nat, k < n ∧ ixN n P = (k : Int) ∧ P k = true ∧ ∀ j, j < k → P j = false := by
  unfold ixN
  cases h : firstN n P with
  | none => exact .inl ⟨rfl, firstN_no h⟩
  | some k =>
    obtain ⟨h1, h2, h3⟩ := firstN_some h
    exact .inr ⟨k, h1, rfl, h2, h3⟩
theorem ixN_bd (n : Nat) (P : Nat → Bool) : -1 ≤ ixN n P ∧ ixN n P < n := by
  rcases ixN_cases n P with ⟨h, _⟩ | ⟨k, h1, h2, _⟩ <;> omega
theorem ixN_neg {n : Nat} {P : Nat → Bool} : ixN n P < 0 ↔ ∀ i, i < n → P i = false := by
  rcases ixN_cases n P with ⟨h, h2⟩ | ⟨k, h1, h2, h3, _⟩
  · exact ⟨fun _ => h2, fun _ => by omega⟩
  · exact ⟨fun e => by omega, fun e => by rw [e k h1] at h3; cases h3⟩
theorem ixN_succ (n : Nat) (P : Nat → Bool) : ixN (n + 1) P = if 0 ≤ ixN n P then ixN n P else if P n = true then (n : Int) else -1 := by
  rcases ixN_cases n P with ⟨h, h2⟩ | ⟨k, h1, h2, h3, h4⟩
  · rw [if_neg (by omega)]
    split
    · rename_i e; exact ixN_at (by omega) h2 e
    · rename_i e
      exact ixN_none fun i hi => by
        by_cases q : i = n
        · subst q; exact Bool.eq_false_iff.2 e
        · exact h2 i (by omega)
  · rw [if_pos (by omega), h2]; exact ixN_at (by omega) h4 h3
theorem ixN_of {n i : Nat} {P : Nat → Bool} (hi : i < n) (h : P i = true) : 0 ≤ ixN n P ∧ ixN n P ≤ i := by
  rcases ixN_cases n P with ⟨_, h2⟩ | ⟨k, h1, h2, h3, h4⟩
  · rw [h2 i hi] at h; cases h
  · refine ⟨by omega, ?_⟩
    rcases Nat.lt_or_ge i k with e | e
    · rw [h4 i e] at h; cases h
    · omega
theorem ixN_congr {n : Nat} {P Q : Nat → Bool} (h : ∀ i, i < n → P i = Q i) : ixN n P = ixN n Q := by
  rcases ixN_cases n Q with ⟨h1, h2⟩ | ⟨k, h1, h2, h3, h4⟩
  · rw [h1]; exact ixN_none fun i hi => by rw [h i hi]; exact h2 i hi
  · rw [h2]; exact ixN_at h1 (fun j hj => by rw [h j (by omega)]; exact h4 j hj) (by rw [h k h1]; exact h3)
/-! lists sorted by a key -/
theorem key_inj {α : Type} {key : α → Int} {W : List α} (hw : W.Pairwise fun a b => key a < key b) {a b : α} (ha : a ∈ W) (hb : b ∈ W) (h : key a = key b) : a = b := by
  obtain ⟨i, hi, rfl⟩ := List.mem_iff_getElem.1 ha
  obtain ⟨j, hj, rfl⟩ := List.mem_iff_getElem.1 hb
  rw [List.pairwise_iff_getElem] at hw
  rcases Nat.lt_trichotomy i j with e | e | e
  · have := hw i j hi hj e; omega
  · subst e; rfl
  · have := hw j i hj hi e; omega
theorem sort_eq {α : Type} {key : α → Int} {S W : List α} (hp : S.Perm W) (hs : S.Pairwise fun a b => key a ≤ key b) (hw : W.Pairwise fun a b => key a < key b) : S = W :=
  List.Perm.eq_of_pairwise (le := fun a b => key a ≤ key b) (fun _ _ ha hb h1 h2 => key_inj hw (hp.mem_iff.1 ha) hb (by omega)) hs (hw.imp fun h => by omega) hp
theorem filt_map {α β γ : Type} (p : α → Bool) (f : α → β) (g : β → Option γ) : ∀ l : List α, ((l.filter p).map f).filterMap g = l.filterMap fun v => if p v = true then g (f v) else none
  | [] => rfl
  | x :: l => by
    have ih := filt_map p f g l
    rw [List.filter_cons, List.filterMap_cons]
    cases h : p x
    · rw [if_neg (by decide)]; exact ih
    · simp only [if_true, List.map_cons, List.filterMap_cons]
      cases g (f x) <;> simp [ih]
/-! the first of a list, and the first two -/
def pairL {α : Type} (L : List α) (P : α → α → Bool) : Option (α × α) :=
  match L.find? (fun a => L.any (P a)) with
  | none => none
  | some a => (L.find? (P a)).map fun b => (a, b)
theorem find_filt {α : Type} {P q : α → Bool} {L : List α} (h : ∀ a, P a = true → q a = true) : (L.filter q).find? P = L.find? P := by
  rw [List.find?_filter]
  congr 1
  funext a
  cases e : P a
  · simp
  · simp [h a e]
theorem any_filt {α : Type} {P q : α → Bool} {L : List α} (h : ∀ a, P a = true → q a = true) : (L.filter q).any P = L.any P := by
  rw [Bool.eq_iff_iff, List.any_eq_true, List.any_eq_true]
  exact ⟨fun ⟨x, h1, h2⟩ => ⟨x, (List.mem_filter.1 h1).1, h2⟩, fun ⟨x, h1, h2⟩ => ⟨x, List.mem_filter.2 ⟨h1, h x h2⟩, h2⟩⟩
theorem pairL_filt {α : Type} {P : α → α → Bool} {q : α → Bool} {L : List α} (h : ∀ a b, P a b = true → q a = true ∧ q b = true) : pairL (L.filter q) P = pairL L P := by
  unfold pairL
  have e1 : (fun a => (L.filter q).any (P a)) = fun a => L.any (P a) := by
    funext a; exact any_filt fun b hb => (h a b hb).2
  rw [e1, find_filt (fun a ha => by
    obtain ⟨b, _, hb⟩ := List.any_eq_true.1 ha
    exact (h a b hb).1)]
  cases L.find? (fun a => L.any (P a)) with
  | none => rfl
  | some a => dsimp only; rw [find_filt fun b hb => (h a b hb).2]
theorem find_at {α : Type} {P : α → Bool} {L : List α} {i : Nat} (hi : i < L.length) (h1 : ∀ j (hj : j < i), P (L[j]'(by omega)) = false) (h : P L[i] = true) : L.find? P = some L[i] := by
  rw [List.find?_eq_some_iff_getElem]
  exact ⟨h, i, hi, rfl, fun j hj => by rw [h1 j hj]; rfl⟩
theorem pairL_none {α : Type} {P : α → α → Bool} {L : List α} (h : ∀ i (hi : i < L.length) k (hk : k < L.length), P L[i] L[k] = false) : pairL L P = none := by
  unfold pairL
  rw [List.find?_eq_none.2 fun a ha => by
    obtain ⟨i, hi, rfl⟩ := List.mem_iff_getElem.1 ha
    rw [Bool.not_eq_true, List.any_eq_false]
    intro b hb
    obtain ⟨k, hk, rfl⟩ := List.mem_iff_getElem.1 hb
    rw [h i hi k hk]; decide]
theorem pairL_at {α : Type} {P : α → α → Bool} {L : List α} {i k : Nat} (hi : i < L.length) (hk : k < L.length) (h1 : ∀ j (hj : j < i) q (hq : q < L.length), P (L[j]'(by omega)) L[q] = false) (h2 : ∀ q (hq : q < k), P L[i] (L[q]'(by omega)) = false) (h : P L[i] L[k] = true) : pairL L P = some (L[i], L[k]) := by
  unfold pairL
  rw [find_at (P := fun a => L.any (P a)) hi (fun j hj => by
    rw [List.any_eq_false]
    intro b hb
    obtain ⟨q, hq, rfl⟩ := List.mem_iff_getElem.1 hb
    rw [h1 j hj q hq]; decide) (List.any_eq_true.2 ⟨_, List.getElem_mem hk, h⟩)]
  dsimp only
  rw [find_at hk h2 h]; rfl
theorem pairL_no {α : Type} {P : α → α → Bool} {L : List α} (h : pairL L P = none) : ∀ a ∈ L, ∀ b ∈ L, P a b = false := by
  intro a ha b hb
  unfold pairL at h
  cases e : L.find? (fun a => L.any (P a)) with
  | none =>
    have := List.find?_eq_none.1 e a ha
    rw [Bool.not_eq_true, List.any_eq_false] at this
    exact Bool.eq_false_iff.2 (this b hb)
  | some x =>
    rw [e] at h
    dsimp only at h
    rw [Option.map_eq_none_iff, List.find?_eq_none] at h
    have := List.find?_some e
    rw [List.any_eq_true] at this
    obtain ⟨y, hy, hxy⟩ := this
    exact absurd hxy (h y hy)
end Go.Proofs.Ytbhjljnbjomnhaa

namespace Go.Proofs.Ytbhjljnbjomnhaa
open Go.RowKit

structure Stp where
  call : Int
  res : Int
  deriving Inhabited, DecidableEq
def Stp.enc (s : Stp) : List Value := [.int .i64 s.call, .int .i64 s.res]
abbrev RdStp (w : World) (A : Option Addr) (l : List Stp) : Prop := RdE Stp.enc 2 w A l
end Go.Proofs.Ytbhjljnbjomnhaa

namespace Go.Proofs.Ytbhjljnbjomnhaa
open Go.RowKit

/-- the keys that a walk over the calls has seen -/
def hasM (cs : List Cl) : Nat → List (Int × Bool)
  | 0 => []
  | k + 1 => if (clK cs k).to = -1 then hasM cs k else putM (hasM cs k) (clK cs k).res true
def hasK (cs : List Cl) (n : Int) : Nat → Bool
  | 0 => false
  | k + 1 => hasK cs n k || (decide ((clK cs k).to ≠ -1) && decide ((clK cs k).res = n))
theorem hasM_look (cs : List Cl) (n : Int) : ∀ k, (lookM (hasM cs k) n).getD false = hasK cs n k
  | 0 => rfl
  | k + 1 => by
    have ih := hasM_look cs n k
    rw [hasM, hasK]
    split
    · rename_i e; rw [ih]; simp [e]
    · rename_i e
      rw [lookM_put]
      by_cases h : n = (clK cs k).res
      · simp [h, e]
      · rw [if_neg h, ih]
        have : ¬ (clK cs k).res = n := fun q => h q.symm
        simp [this]
def mostK (cs : List Cl) : Nat → Int
  | 0 => -1
  | k + 1 => if (clK cs k).to = -1 then mostK cs k else max (mostK cs k) (clK cs k).res
def pendK (cs : List Cl) (k : Nat) : List Nat := (List.range k).filter fun i => decide ((clK cs i).to = -1)
theorem pendK_succ (cs : List Cl) (k : Nat) : pendK cs (k + 1) = if (clK cs k).to = -1 then pendK cs k ++ [k] else pendK cs k := by
  unfold pendK
  rw [List.range_succ, List.filter_append]
  split <;> rename_i h <;> simp [h]
theorem pendK_len (cs : List Cl) (k : Nat) : (pendK cs k).length ≤ k := by
  unfold pendK
  exact Nat.le_trans (List.length_filter_le _ _) (by simp)
theorem pendK_lt {cs : List Cl} {k i : Nat} (h : i ∈ pendK cs k) : i < k ∧ (clK cs i).to = -1 := by
  unfold pendK at h
  rw [List.mem_filter, List.mem_range] at h
  exact ⟨h.1, of_decide_eq_true h.2⟩
def numT (cs : List Cl) : Nat := (mostK cs cs.length + 1).toNat
def hasT (cs : List Cl) (n : Nat) : Bool := hasK cs (n : Int) cs.length
def missK (cs : List Cl) (n : Nat) : List Nat := (List.range n).filter fun n => !hasT cs n
theorem missK_succ (cs : List Cl) (k : Nat) : missK cs (k + 1) = if hasT cs k = true then missK cs k else missK cs k ++ [k] := by
  unfold missK
  rw [List.range_succ, List.filter_append]
  cases h : hasT cs k <;> simp [h]
theorem missK_len (cs : List Cl) (k : Nat) : (missK cs k).length ≤ k := by
  unfold missK
  exact Nat.le_trans (List.length_filter_le _ _) (by simp)
def pendT (cs : List Cl) : List Nat := pendK cs cs.length
def missT (cs : List Cl) : List Nat := missK cs (numT cs)
theorem missK_at (cs : List Cl) {n m : Nat} (h : hasT cs n = false) (hm : n < m) : (missK cs m)[(missK cs n).length]? = some n := by
  induction m with
  | zero => omega
  | succ m ih =>
    rw [missK_succ]
    by_cases e : n = m
    · subst e
      rw [if_neg (by rw [h]; decide)]
      simp
    · have := ih (by omega)
      split
      · exact this
      · rw [List.getElem?_append_left (by
          have := (List.getElem?_eq_some_iff.1 this).1; omega)]
        exact this
theorem missK_mem {cs : List Cl} {n m : Nat} : n ∈ missK cs m ↔ n < m ∧ hasT cs n = false := by
  unfold missK
  rw [List.mem_filter, List.mem_range]
  simp
/-- is x behind the number n, and ahead of call i -/
def lateB (cs : List Cl) (i n : Nat) (x : Cl) : Bool := decide (x.to ≠ -1) && (decide (x.to < (clK cs i).from_) && decide ((n : Int) ≤ x.res))
def canT (cs : List Cl) (i n : Nat) : Bool := !cs.any (lateB cs i n)
def twB (cs : List Cl) (i k : Nat) : Bool := decide ((clK cs i).to ≠ -1) && (decide ((clK cs k).to ≠ -1) && decide ((clK cs i).res = (clK cs k).res))
def ordB (cs : List Cl) (i k : Nat) : Bool := decide ((clK cs i).to ≠ -1) && (decide ((clK cs k).to ≠ -1) && (decide ((clK cs i).to < (clK cs k).from_) && decide ((clK cs k).res < (clK cs i).res)))
def gapB (cs : List Cl) (k : Nat) : Bool := decide ((pendT cs).length ≤ k) || !canT cs ((pendT cs).getD k 0) ((missT cs).getD k 0)
def checkT (cs : List Cl) : Bd :=
  match firstP cs.length (fun i => i) (twB cs) with
  | some (i, k) => ⟨2, i, k⟩
  | none => match firstP cs.length (fun _ => cs.length) (ordB cs) with
    | some (i, k) => ⟨6, i, k⟩
    | none => match firstN (missT cs).length (gapB cs) with
      | some k => ⟨8, ((missT cs).getD k 0 : Nat), 0⟩
      | none => ⟨0, 0, 0⟩
/-! the list of who has which number -/
def lastK (cs : List Cl) (n : Int) : Nat → Int
  | 0 => -1
  | k + 1 => if (clK cs k).to ≠ -1 ∧ (clK cs k).res = n then (k : Int) else lastK cs n k
theorem lastK_has (cs : List Cl) (n : Int) : ∀ k, (lastK cs n k < 0 ↔ hasK cs n k = false) ∧ lastK cs n k < k ∧ -1 ≤ lastK cs n k
  | 0 => ⟨by simp [lastK, hasK], by simp [lastK], by simp [lastK]⟩
  | k + 1 => by
    obtain ⟨h1, h2, h3⟩ := lastK_has cs n k
    rw [lastK, hasK]
    split
    · rename_i h
      refine ⟨?_, by omega, by omega⟩
      simp [h.1, h.2]
    · rename_i h
      refine ⟨?_, by omega, h3⟩
      rw [h1]
      have : (decide ((clK cs k).to ≠ -1) && decide ((clK cs k).res = n)) = false := by
        rw [Bool.and_eq_false_iff, decide_eq_false_iff_not, decide_eq_false_iff_not]
        by_cases a : (clK cs k).to ≠ -1
        · right; exact fun b => h ⟨a, b⟩
        · left; exact a
      rw [this, Bool.or_false]
def whoT (cs : List Cl) (n : Nat) : Nat := if lastK cs n cs.length < 0 then (pendT cs).getD (missK cs n).length 0 else (lastK cs n cs.length).toNat
def numsT (cs : List Cl) : List Nat := (List.range (numT cs)).map (whoT cs)
def ansL (cs : List Cl) (k : Nat) : List Stp := ((List.range k).filter fun i => decide ((clK cs i).to ≠ -1)).map fun i : Nat => (⟨(i : Int), (clK cs i).res⟩ : Stp)
def gapL (cs : List Cl) (k : Nat) : List Stp := (List.range k).map fun i => (⟨((pendT cs).getD i 0 : Nat), ((missT cs).getD i 0 : Nat)⟩ : Stp)
def wantL (cs : List Cl) (n : Nat) : List Stp := (List.range n).map fun n : Nat => (⟨(whoT cs n : Nat), (n : Int)⟩ : Stp)
theorem ansL_succ (cs : List Cl) (k : Nat) : ansL cs (k + 1) = if (clK cs k).to = -1 then ansL cs k else ansL cs k ++ [⟨(k : Int), (clK cs k).res⟩] := by
  unfold ansL
  rw [List.range_succ, List.filter_append, List.map_append]
  split <;> rename_i h <;> simp [h]
theorem ansL_len (cs : List Cl) (k : Nat) : (ansL cs k).length ≤ k := by
  unfold ansL
  rw [List.length_map]
  exact Nat.le_trans (List.length_filter_le _ _) (by simp)
theorem gapL_succ (cs : List Cl) (k : Nat) : gapL cs (k + 1) = gapL cs k ++ [⟨((pendT cs).getD k 0 : Nat), ((missT cs).getD k 0 : Nat)⟩] := by
  unfold gapL
  rw [List.range_succ, List.map_append]; rfl
theorem gapL_len (cs : List Cl) (k : Nat) : (gapL cs k).length = k := by simp [gapL]
theorem wantL_succ (cs : List Cl) (k : Nat) : wantL cs (k + 1) = wantL cs k ++ [⟨(whoT cs k : Nat), (k : Int)⟩] := by
  unfold wantL
  rw [List.range_succ, List.map_append]; rfl
theorem wantL_len (cs : List Cl) (k : Nat) : (wantL cs k).length = k := by simp [wantL]
theorem numsT_at {cs : List Cl} {n : Nat} (h : n < numT cs) : (numsT cs).getD n 0 = whoT cs n := by simp [numsT, h]
/-- what is so of calls of tickets -/
structure TkOk (cs : List Cl) : Prop where
  few : cs.length ≤ 200
  res : ∀ k, k < cs.length → (clK cs k).to ≠ -1 → 0 ≤ (clK cs k).res ∧ (clK cs k).res ≤ 1000
  to : ∀ k, k < cs.length → (clK cs k).to = -1 ∨ 0 ≤ (clK cs k).to
  ne : ∀ p q, p < cs.length → q < cs.length → (clK cs p).to ≠ (clK cs q).from_
theorem tkOk_of {l : List Ev} (h : (callsR [5] l).2.2 = 0) : TkOk (callsR [5] l).1 := by
  obtain ⟨_, h2, h3, h4⟩ := callsR_all h
  refine ⟨callsR_len _ _, fun k hk ht => ?_, fun k hk => ?_, fun p q hp hq => ?_⟩
  · rw [clK_eq hk] at ht ⊢
    have ha := h4.ans k hk ht
    have h5 := (h2.each k hk).thing
    have h6 := (h2.each k hk).kind
    have e : (callsR [5] l).1[k].thing.toNat = 0 := by simp at h5; omega
    rw [e] at h6
    have hk10 : (callsR [5] l).1[k].kind = 10 := by simpa [kindsL] using h6
    rw [hk10] at ha
    simpa [ansB] using ha
  · rw [clK_eq hk]
    rcases h3.to k hk with h | h
    · exact .inl h
    · have := h4.lt k hk; right; omega
  · rw [clK_eq hp, clK_eq hq]; exact h4.ne p q hp hq
theorem mostK_ge {cs : List Cl} : ∀ {k i : Nat}, i < k → (clK cs i).to ≠ -1 → (clK cs i).res ≤ mostK cs k
  | k + 1, i, hi, ht => by
    rw [mostK]
    by_cases e : i = k
    · subst e; rw [if_neg ht]; omega
    · have := mostK_ge (cs := cs) (k := k) (i := i) (by omega) ht
      split <;> omega
theorem mostK_bd {cs : List Cl} (h : TkOk cs) : ∀ k, k ≤ cs.length → -1 ≤ mostK cs k ∧ mostK cs k ≤ 1000
  | 0, _ => by simp [mostK]
  | k + 1, hk => by
    have h1 := mostK_bd h k (by omega)
    rw [mostK]
    split
    · exact h1
    · rename_i e
      have := h.res k (by omega) e
      omega
theorem hasK_of {cs : List Cl} {n : Int} : ∀ {k i : Nat}, i < k → (clK cs i).to ≠ -1 → (clK cs i).res = n → hasK cs n k = true
  | k + 1, i, hi, ht, hr => by
    rw [hasK]
    by_cases e : i = k
    · subst e; simp [ht, hr]
    · rw [hasK_of (k := k) (i := i) (by omega) ht hr]; rfl
theorem hasK_some {cs : List Cl} {n : Int} : ∀ {k : Nat}, hasK cs n k = true → ∃ i, i < k ∧ (clK cs i).to ≠ -1 ∧ (clK cs i).res = n
  | k + 1, h => by
    rw [hasK, Bool.or_eq_true] at h
    rcases h with h | h
    · obtain ⟨i, h1, h2⟩ := hasK_some h
      exact ⟨i, by omega, h2⟩
    · simp at h
      exact ⟨k, by omega, h⟩
theorem lastK_of {cs : List Cl} {n : Int} : ∀ {k : Nat}, 0 ≤ lastK cs n k → (clK cs (lastK cs n k).toNat).to ≠ -1 ∧ (clK cs (lastK cs n k).toNat).res = n
  | 0, h => by simp [lastK] at h
  | k + 1, h => by
    rw [lastK] at h ⊢
    split
    · rename_i e; simpa using e
    · rename_i e
      rw [if_neg e] at h
      exact lastK_of h
section
variable {cs : List Cl} (hok : TkOk cs) (hno : firstP cs.length (fun i => i) (twB cs) = none)
include hno
theorem tk_inj {i k : Nat} (hi : i < cs.length) (hk : k < cs.length) (h1 : (clK cs i).to ≠ -1) (h2 : (clK cs k).to ≠ -1) (h : (clK cs i).res = (clK cs k).res) : i = k := by
  rcases Nat.lt_trichotomy i k with e | e | e
  · have := firstP_no hno k hk i e
    simp [twB, h1, h2, h] at this
  · exact e
  · have := firstP_no hno i hi k e
    simp [twB, h1, h2, h] at this
theorem lastK_is {i : Nat} {n : Int} (hi : i < cs.length) (h1 : (clK cs i).to ≠ -1) (h : (clK cs i).res = n) : lastK cs n cs.length = (i : Int) := by
  obtain ⟨q1, q2, q3⟩ := lastK_has cs n cs.length
  have h0 : 0 ≤ lastK cs n cs.length := by
    rcases Int.lt_or_le (lastK cs n cs.length) 0 with e | e
    · have := q1.1 e
      rw [hasK_of hi h1 h] at this; cases this
    · exact e
  obtain ⟨a1, a2⟩ := lastK_of h0
  have := tk_inj hno (i := (lastK cs n cs.length).toNat) (k := i) (by omega) hi a1 h1 (by rw [a2, h])
  omega
include hok
/-- the answered calls and the others with their numbers are those who have a number -/
theorem tk_mem (hgap : (missT cs).length ≤ (pendT cs).length) (s : Stp) : s ∈ ansL cs cs.length ++ gapL cs (missT cs).length ↔ s ∈ wantL cs (numT cs) := by
  have hm := mostK_bd hok cs.length (Nat.le_refl _)
  constructor
  · intro h
    rcases List.mem_append.1 h with h | h
    · unfold ansL at h
      obtain ⟨i, h1, rfl⟩ := List.mem_map.1 h
      rw [List.mem_filter, List.mem_range] at h1
      obtain ⟨h1, h2⟩ := h1
      have h2 := of_decide_eq_true h2
      have hr := hok.res i h1 h2
      have hg := mostK_ge h1 h2
      obtain ⟨n, hn⟩ : ∃ n : Nat, (clK cs i).res = n := ⟨(clK cs i).res.toNat, by omega⟩
      refine List.mem_map.2 ⟨n, List.mem_range.2 (by unfold numT; omega), ?_⟩
      have hl := lastK_is hno (n := (n : Int)) h1 h2 hn
      unfold whoT
      rw [hl, if_neg (by omega), hn]
      rfl
    · unfold gapL at h
      obtain ⟨k, h1, rfl⟩ := List.mem_map.1 h
      rw [List.mem_range] at h1
      have e : (missT cs).getD k 0 = (missT cs)[k] := by simp [h1]
      have hmem : (missT cs)[k] ∈ missT cs := List.getElem_mem _
      rw [e]
      obtain ⟨m1, m2⟩ := (missK_mem (cs := cs) (m := numT cs)).1 hmem
      refine List.mem_map.2 ⟨(missT cs)[k], List.mem_range.2 m1, ?_⟩
      have hl : lastK cs ((missT cs)[k] : Nat) cs.length < 0 := (lastK_has cs _ cs.length).1.2 m2
      have hk : (missK cs (missT cs)[k]).length = k := by
        have h3 := missK_at cs m2 m1
        have h4 : (missT cs)[k]? = some (missT cs)[k] := by simp [h1]
        have hnd : (missT cs).Nodup := List.Pairwise.filter _ List.nodup_range
        obtain ⟨h5, h6⟩ := List.getElem?_eq_some_iff.1 h3
        exact (List.getElem_inj (h₀ := h5) (h₁ := h1) hnd).1 h6
      unfold whoT
      rw [if_pos hl, hk]
  · intro h
    unfold wantL at h
    obtain ⟨n, h1, rfl⟩ := List.mem_map.1 h
    rw [List.mem_range] at h1
    obtain ⟨q1, q2, q3⟩ := lastK_has cs n cs.length
    unfold whoT
    by_cases h0 : lastK cs n cs.length < 0
    · rw [if_pos h0]
      have hn : hasT cs n = false := q1.1 h0
      have h3 := missK_at cs hn h1
      refine List.mem_append_right _ (List.mem_map.2 ⟨(missK cs n).length, List.mem_range.2 ?_, ?_⟩)
      · exact (List.getElem?_eq_some_iff.1 h3).1
      · have : (missT cs).getD (missK cs n).length 0 = n := by
          rw [List.getD_eq_getElem?_getD]
          unfold missT
          rw [h3]; rfl
        rw [this]
    · rw [if_neg h0]
      obtain ⟨a1, a2⟩ := lastK_of (Int.not_lt.1 h0)
      refine List.mem_append_left _ (List.mem_map.2 ⟨(lastK cs n cs.length).toNat, ?_, ?_⟩)
      · rw [List.mem_filter, List.mem_range]
        exact ⟨by omega, by simpa using a1⟩
      · rw [a2]
theorem tk_nodup (hgap : (missT cs).length ≤ (pendT cs).length) : (ansL cs cs.length ++ gapL cs (missT cs).length).Nodup := by
  rw [List.nodup_append]
  refine ⟨?_, ?_, ?_⟩
  · unfold ansL
    refine List.Pairwise.map _ (fun a b hab he => hab ?_) (List.Pairwise.filter _ (List.nodup_range (n := cs.length)))
    have : (a : Int) = (b : Int) := congrArg Stp.call he
    omega
  · unfold gapL
    rw [List.Nodup, List.pairwise_map]
    have hnd : (missT cs).Nodup := List.Pairwise.filter _ List.nodup_range
    rw [List.pairwise_iff_getElem]
    intro i j hi hj hij he
    simp only [List.length_range] at hi hj
    have := congrArg Stp.res he
    simp only [List.getElem_range] at this
    have h1 : (missT cs).getD i 0 = (missT cs)[i] := by simp [hi]
    have h2 : (missT cs).getD j 0 = (missT cs)[j] := by simp [hj]
    rw [h1, h2] at this
    have := (List.getElem_inj (h₀ := hi) (h₁ := hj) hnd).1 (by omega)
    omega
  · intro a ha b hb e
    subst e
    unfold ansL at ha
    unfold gapL at hb
    obtain ⟨i, h1, rfl⟩ := List.mem_map.1 ha
    obtain ⟨k, h2, he⟩ := List.mem_map.1 hb
    rw [List.mem_filter, List.mem_range] at h1
    rw [List.mem_range] at h2
    have e : (missT cs).getD k 0 = (missT cs)[k] := by simp [h2]
    have hmem : (missT cs)[k] ∈ missT cs := List.getElem_mem _
    have hm := (missK_mem.1 hmem).2
    have hr := congrArg Stp.res he
    dsimp only at hr
    rw [e] at hr
    unfold hasT at hm
    rw [hasK_of h1.1 (of_decide_eq_true h1.2) hr.symm] at hm
    cases hm
theorem tk_sorted (hgap : (missT cs).length ≤ (pendT cs).length) {S : List Stp} (hp : S.Perm (ansL cs cs.length ++ gapL cs (missT cs).length)) (hs : S.Pairwise fun a b => a.res ≤ b.res) : S = wantL cs (numT cs) := by
  have hw : (wantL cs (numT cs)).Pairwise fun a b => a.res ≤ b.res := by
    unfold wantL
    rw [List.pairwise_map, List.pairwise_iff_getElem]
    intro i j hi hj hij
    simp only [List.getElem_range]
    omega
  have hwn : (wantL cs (numT cs)).Nodup := by
    unfold wantL
    rw [List.Nodup, List.pairwise_map, List.pairwise_iff_getElem]
    intro i j hi hj hij he
    have := congrArg Stp.res he
    simp only [List.getElem_range] at this
    omega
  have hpw : S.Perm (wantL cs (numT cs)) := hp.trans ((List.perm_ext_iff_of_nodup (tk_nodup hok hno hgap) hwn).2 (tk_mem hok hno hgap))
  refine List.Perm.eq_of_pairwise (le := fun a b : Stp => a.res ≤ b.res) (fun a b ha hb h1 h2 => ?_) hs hw hpw
  have ha := hpw.mem_iff.1 ha
  unfold wantL at ha hb
  obtain ⟨n, _, rfl⟩ := List.mem_map.1 ha
  obtain ⟨m, _, rfl⟩ := List.mem_map.1 hb
  dsimp only at h1 h2
  obtain rfl : n = m := by omega
  rfl
end
end Go.Proofs.Ytbhjljnbjomnhaa

namespace Go.Proofs.Ytbhjljnbjomnhaa

def idxF {α : Type} (p : α → Bool) (l : List α) : Int := if l.any p = true then (l.findIdx p : Int) else -1
theorem any_take_not {α : Type} {p : α → Bool} {l : List α} {k : Nat} (hk : k < l.length) (h1 : (l.take k).any p = false) (h2 : p l[k] = false) : (l.take (k + 1)).any p = false := by
  rw [List.take_succ_eq_append_getElem hk, List.any_append, h1]; simp [h2]
theorem idxF_at {α : Type} {p : α → Bool} {l : List α} {k : Nat} (hk : k < l.length) (h1 : (l.take k).any p = false) (h2 : p l[k] = true) : idxF p l = (k : Int) := by
  have hany : l.any p = true := List.any_eq_true.2 ⟨_, List.getElem_mem hk, h2⟩
  unfold idxF
  rw [if_pos hany]
  congr 1
  rw [List.findIdx_eq hk]
  refine ⟨h2, fun j hj => ?_⟩
  rw [List.any_eq_false] at h1
  have hm : l[j] ∈ l.take k := by
    rw [List.mem_take_iff_getElem]
    exact ⟨j, by omega, rfl⟩
  exact Bool.eq_false_iff.2 (h1 _ hm)
theorem idxF_no {α : Type} {p : α → Bool} {l : List α} (h : l.any p = false) : idxF p l = -1 := by
  unfold idxF; rw [if_neg (by rw [h]; decide)]
theorem idxF_any {α : Type} (p : α → Bool) (l : List α) : decide (0 ≤ idxF p l) = l.any p := by
  unfold idxF
  split
  · rename_i h; rw [h]; simp
  · rename_i h; rw [Bool.eq_false_iff.2 h]; decide
theorem idxF_lt {α : Type} {p : α → Bool} {l : List α} : -1 ≤ idxF p l ∧ idxF p l < l.length := by
  unfold idxF
  split
  · rename_i h
    have := List.findIdx_lt_length.2 (List.any_eq_true.1 h)
    omega
  · omega
theorem idxF_neg {α : Type} {p : α → Bool} {l : List α} : idxF p l < 0 ↔ l.any p = false := by
  rw [← idxF_any, decide_eq_false_iff_not]; omega
end Go.Proofs.Ytbhjljnbjomnhaa

namespace Go.Proofs.Ytbhjljnbjomnhaa
open Go.RowKit

section
variable (fn : Nat) [IsFn Try.prog fn] (p : Cl → Bool) (cvs : List Value) (A : Option Addr) (c : Nat) (l : List Cl) (w : World) (hA : RdE Cl.enc 7 w A l) (hl : l.length ≤ 9223372036854775807)
variable (hp : ∀ s ∈ l, ∀ w', Below w.heap.size w w' → Calls Try.prog fn (.agg (Cl.enc s).toArray :: cvs).toArray w' fun e w2 => e = .returned (.bool (p s)) ∧ Below w'.heap.size w' w2)
include hA hl hp
set_option maxRecDepth 100000 in
theorem indexCall_any : Calls Try.prog 186 #[.slice A l.length c, .func (.func fn) #[] cvs.toArray] w fun e w' => e = .returned (.int .i64 (idxF p l)) ∧ Below w.heap.size w w' := by
  refine calls_T (S := []) [] Try.func186 rfl Try.ntmps186 (by simp) (Mem.nil _) ?_
  repeat' (first | (refine GO ?_) | (refine GOE ?_; (first | (rintro _ _ ⟨rfl, rfl⟩) | (rintro _ _ ⟨g, rfl, rfl⟩) | (rintro _ _ ⟨A', c', rfl, rfl⟩))) | ((refine GO2 ?_ ?_) <;> intro h <;> (try (repeat (first | with_reducible (replace h := of_decide_eq_true h) | with_reducible (replace h := of_decide_eq_false h) | with_reducible (replace h := bnt h) | with_reducible (replace h := bnf h) | with_reducible (replace h := Int.not_lt.mp h) | with_reducible (replace h := Int.not_le.mp h) | with_reducible (replace h := band_dec h) | with_reducible (replace h := band_decF h) | with_reducible (replace h := bor_dec h) | with_reducible (replace h := bor_decF h)))) <;> (try (exfalso; first | contradiction | omega))) | fail)
  refine T_loop (X := Nat) (fun k => [(8, .int .i64 (k : Nat)), (7, .int .i64 (l.length : Nat)), (1, .func (.func fn) #[] cvs.toArray), (0, .slice A l.length c)]) (fun _ => [])
    (fun k => k ≤ l.length ∧ (l.take k).any p = false) (fun k => l.length - k) 0 ⟨by omega, by simp⟩ (by (repeat (first | exact SubE.nil _ | refine SubE.cons rfl ?_))) (by exact SUBS) ?_
  rintro k ⟨hk, hno⟩
  by_cases hkl : k < l.length
  · obtain ⟨b, o, rfl, _⟩ := RdE.open hA (by omega)
    have hb := fun w' hb => hp l[k] (List.getElem_mem _) w' hb
    generalize hz : p l[k] = z at hb
    repeat' (first | (refine GO ?_) | (refine GOE ?_; (first | (rintro _ _ ⟨rfl, rfl⟩) | (rintro _ _ ⟨g, rfl, rfl⟩) | (rintro _ _ ⟨A', c', rfl, rfl⟩))) | ((refine GO2 ?_ ?_) <;> intro h <;> (try (repeat (first | with_reducible (replace h := of_decide_eq_true h) | with_reducible (replace h := of_decide_eq_false h) | with_reducible (replace h := bnt h) | with_reducible (replace h := bnf h) | with_reducible (replace h := Int.not_lt.mp h) | with_reducible (replace h := Int.not_le.mp h) | with_reducible (replace h := band_dec h) | with_reducible (replace h := band_decF h) | with_reducible (replace h := bor_dec h) | with_reducible (replace h := bor_decF h)))) <;> (try (exfalso; first | contradiction | omega))) | ((with_reducible (first | apply TD_e2z | apply TD_e3z | apply TL_e | apply TD_e2 | apply TD_e3)); ((with_reducible apply ES_callFV (f := fn) (us := []) (cs := cvs) (v := .bool z)); exact rfl; exact rfl; (intro w' hw; exact hb w' (hw.below0 rfl)); exact rfl); (first | exact rfl | exact ⟨rfl, rfl, rfl⟩); (rintro _ _ ⟨rfl, rfl⟩); (try refine ⟨SUB, ?_⟩)) | fail)
    · (refine At_ret Try.results186 rfl (fun w' hw => ?_))
      exact ⟨by rw [idxF_at hkl hno (by rw [hz]; assumption)]; rfl, hw.below0 rfl⟩
    · refine At_rounds (k + 1) ⟨hkl, any_take_not hkl hno (by rw [hz]; assumption)⟩ (by omega) (by (repeat (first | exact SubE.nil _ | refine SubE.cons rfl ?_))) (by exact SUBS)
  · obtain rfl : k = l.length := by omega
    rw [List.take_length] at hno
    repeat' (first | (refine GO ?_) | (refine GOE ?_; (first | (rintro _ _ ⟨rfl, rfl⟩) | (rintro _ _ ⟨g, rfl, rfl⟩) | (rintro _ _ ⟨A', c', rfl, rfl⟩))) | ((refine GO2 ?_ ?_) <;> intro h <;> (try (repeat (first | with_reducible (replace h := of_decide_eq_true h) | with_reducible (replace h := of_decide_eq_false h) | with_reducible (replace h := bnt h) | with_reducible (replace h := bnf h) | with_reducible (replace h := Int.not_lt.mp h) | with_reducible (replace h := Int.not_le.mp h) | with_reducible (replace h := band_dec h) | with_reducible (replace h := band_decF h) | with_reducible (replace h := bor_dec h) | with_reducible (replace h := bor_decF h)))) <;> (try (exfalso; first | contradiction | omega))) | fail)
    (refine At_ret Try.results186 rfl (fun w' hw => ?_))
    exact ⟨by rw [idxF_no hno]; rfl, hw.below0 rfl⟩
set_option maxRecDepth 100000 in
theorem contCall_any : Calls Try.prog 151 #[.slice A l.length c, .func (.func fn) #[] cvs.toArray] w fun e w' => e = .returned (.bool (l.any p)) ∧ Below w.heap.size w w' := by
  have hi := fun w' (hb : Below w.heap.size w w') => indexCall_any fn p cvs A c l w' (RdE.below hA hb) hl (fun s hs w2 h2 => hp s hs w2 (bel_trans hb h2))
  have hz := idxF_any p l
  generalize idxF p l = z at *
  generalize l.any p = q at *
  subst hz
  refine calls_T (S := []) [] Try.func151 rfl Try.ntmps151 (by simp) (Mem.nil _) ?_
  repeat' (first | (refine GO ?_) | (refine GOE ?_; (first | (rintro _ _ ⟨rfl, rfl⟩) | (rintro _ _ ⟨g, rfl, rfl⟩) | (rintro _ _ ⟨A', c', rfl, rfl⟩))) | ((refine GO2 ?_ ?_) <;> intro h <;> (try (repeat (first | with_reducible (replace h := of_decide_eq_true h) | with_reducible (replace h := of_decide_eq_false h) | with_reducible (replace h := bnt h) | with_reducible (replace h := bnf h) | with_reducible (replace h := Int.not_lt.mp h) | with_reducible (replace h := Int.not_le.mp h) | with_reducible (replace h := band_dec h) | with_reducible (replace h := band_decF h) | with_reducible (replace h := bor_dec h) | with_reducible (replace h := bor_decF h)))) <;> (try (exfalso; first | contradiction | omega))) | ((with_reducible (first | apply TD_e2z | apply TD_e3z | apply TL_e | apply TD_e2 | apply TD_e3)); ((with_reducible apply ES_callV (f := 186)); exact rfl; (intro w hw; exact hi w (hw.below0 rfl)); exact rfl); (first | exact rfl | exact ⟨rfl, rfl, rfl⟩); (rintro _ _ ⟨rfl, rfl⟩); (try refine ⟨SUB, ?_⟩)) | fail)
  (refine At_ret Try.results151 rfl (fun w' hw => ?_))
  exact ⟨rfl, hw.below0 rfl⟩
end
end Go.Proofs.Ytbhjljnbjomnhaa

namespace Go.Proofs.Ytbhjljnbjomnhaa
open Go.RowKit

/-- S holds what S1 says, in any order; R is left -/
inductive Pull : List Ent → List Ent → List Ent → Prop
  | nil (S : List Ent) : Pull S [] S
  | cons {S R T R' : List Ent} {e : Ent} (h : Pick S e R) (t : Pull R T R') : Pull S (e :: T) R'
theorem Pull.mem : ∀ {S T R : List Ent}, Pull S T R → ∀ f, f ∈ T ++ R ↔ f ∈ S
  | _, _, _, .nil _, f => by simp
  | _, _, _, .cons h t, f => by
    obtain ⟨A, B, rfl, rfl⟩ := h.form
    have := t.mem f
    rw [List.cons_append, List.mem_cons, this]
    simp only [List.mem_append, List.mem_cons]
    constructor
    · rintro (h | h | h)
      · exact .inr (.inl h)
      · exact .inl h
      · exact .inr (.inr h)
    · rintro (h | h | h)
      · exact .inr (.inl h)
      · exact .inl h
      · exact .inr (.inr h)
section
variable {C : Ctx} {w : World} {S T R : List Ent}
theorem Mem.pull (hw : Mem C w S) (h : Pull S T R) : Mem C w (T ++ R) := by
  induction h with
  | nil S => exact hw
  | @cons S R T R' e h t ih =>
    have h1 := hw.pick h
    have hap := List.pairwise_cons.1 h1.apart
    have h2 := ih (h1.sub (List.sublist_cons_self _ _))
    refine ⟨h2.keeps, fun f hf => ?_, ?_⟩
    · rcases List.mem_cons.1 hf with rfl | hf
      · exact h1.holds f (by simp)
      · exact h2.holds f hf
    · exact List.pairwise_cons.2 ⟨fun f hf => hap.1 f ((t.mem f).1 hf), h2.apart⟩
end
/-- one list behind the other, laid flat -/
inductive AppL : List Ent → List Ent → List Ent → Prop
  | nil (R : List Ent) : AppL [] R R
  | cons {T R S2 : List Ent} (e : Ent) (h : AppL T R S2) : AppL (e :: T) R (e :: S2)
theorem AppL.eq {T R S2 : List Ent} (h : AppL T R S2) : T ++ R = S2 := by
  induction h with
  | nil R => rfl
  | cons e _ ih => rw [List.cons_append, ih]
section
variable {P : Program} {C : Ctx} {Q : Exit → Act → World → Prop} {E : Slots} {S S1 S1' R S2 : List Ent}
variable {d ty : Nat} {ps : String} {af : Array Edge} {g0 : Option (Nat × Bool)} {f : Nat}
/-- a call that turns what it is handed -/
theorem ES_callMp [hf : IsFn P f] {xs : List Operand} {vs : List Value} {ats : Array TypeId} {v : Value} (hx : evs E xs = some vs) (hS : Pull S S1 R) (hA : AppL S1' R S2)
    (hc : ∀ w, Mem C w (S1 ++ R) → Calls P f vs.toArray w fun e w' => e = .returned v ∧ Mem ⟨0, blks S1, w⟩ w' S1') (hd : Nat.ble (d + 1) C.n = true) :
    ES P C E S ⟨some d, .call ⟨.value (.func f), xs.toArray, ats⟩, ty, ps, af, g0⟩ (fun E' S' => E' = (d, v) :: E ∧ S' = S2) :=
  (ES_call (fun u T => u = v ∧ T = S1' ++ R) hx (fun w hw => (hc w (hw.pull hS)).mono fun e w' ⟨he, hb⟩ => ⟨v, _, he, (hw.pull hS).frame hb, rfl, rfl⟩) hd).weak (by rintro _ _ ⟨_, ⟨rfl, rfl⟩, rfl⟩; exact ⟨rfl, hA.eq⟩)
/-- a call of a function value that turns what it is handed -/
theorem ES_callFMp [hf : IsFn P f] {x : Operand} {xs : List Operand} {vs us cs : List Value} {ats : Array TypeId} {v : Value} (hv : evo E x = some (.func (.func f) us.toArray cs.toArray)) (hx : evs E xs = some vs) (hS : Pull S S1 R) (hA : AppL S1' R S2)
    (hc : ∀ w, Mem C w (S1 ++ R) → Calls P f (us ++ vs ++ cs).toArray w fun e w' => e = .returned v ∧ Mem ⟨0, blks S1, w⟩ w' S1') (hd : Nat.ble (d + 1) C.n = true) :
    ES P C E S ⟨some d, .call ⟨.value x, xs.toArray, ats⟩, ty, ps, af, g0⟩ (fun E' S' => E' = (d, v) :: E ∧ S' = S2) :=
  (ES_enter (fun u T => u = v ∧ T = S1' ++ R) (fun a w ha => run_callV hv hx ha) (fun w hw => (hc w (hw.pull hS)).mono fun e w' ⟨he, hb⟩ => ⟨v, _, he, (hw.pull hS).frame hb, rfl, rfl⟩) hd).weak (by rintro _ _ ⟨_, ⟨rfl, rfl⟩, rfl⟩; exact ⟨rfl, hA.eq⟩)
theorem Mem.blkAt {w : World} {g t : Nat} {cs : Array Value} (hw : Mem C w S) (hm : entBlk g t cs ∈ S) : g < w.heap.size ∧ ∀ o, w.cell? ⟨g, o, Option.none⟩ = cs[o]? :=
  ⟨((hw.holds _ hm).1 : Blk w g t cs).lt, fun o => ((hw.holds _ hm).1 : Blk w g t cs).cell o⟩
/-- a call that hands back what it made -/
theorem ES_callNew [hf : IsFn P f] {X : Type} {xs : List Operand} {vs : List Value} {ats : Array TypeId} (v : X → Value) (S1 : X → List Ent) {S2 : X → List Ent} (hx : evs E xs = some vs) (hA : ∀ x, AppL (S1 x) S (S2 x))
    (hc : ∀ w, Mem C w S → Calls P f vs.toArray w fun e w' => ∃ x, e = .returned (v x) ∧ Mem ⟨0, [], w⟩ w' (S1 x)) (hd : Nat.ble (d + 1) C.n = true) :
    ES P C E S ⟨some d, .call ⟨.value (.func f), xs.toArray, ats⟩, ty, ps, af, g0⟩ (fun E' S' => ∃ x, E' = (d, v x) :: E ∧ S' = S2 x) :=
  (ES_call (fun u T => ∃ x, u = v x ∧ T = S2 x) hx (fun w hw => (hc w hw).mono fun e w' ⟨x, he, hb⟩ => ⟨v x, _, he, (show Mem C w ([] ++ S) from hw).frame (S1 := []) (n := 0) hb, x, rfl, (hA x).eq⟩) hd).weak
    (by rintro _ _ ⟨_, ⟨x, rfl, rfl⟩, rfl⟩; exact ⟨x, rfl, rfl⟩)
/-- a cut behind an 'if', named by its first region -/
theorem T_cutIf {X : Type} (id : Nat) {ops : Array Oper} {dr : Bool} {x y : Code} (I : X → Slots) (J : X → List Ent) (pre : X → Prop) (hx : T P C (.seq (.region id ops dr) x) (Exit.then (Cut C I J pre) Q) E S) (hy : ∀ z, pre z → T P C y Q (I z) (J z)) : T P C (.seq (.seq (.region id ops dr) x) y) Q E S :=
  T_cut I J pre hx hy
end
end Go.Proofs.Ytbhjljnbjomnhaa
