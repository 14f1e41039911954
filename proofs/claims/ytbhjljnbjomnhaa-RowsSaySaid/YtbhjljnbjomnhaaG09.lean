/- Lemmas for the walks (Cau1, Cto, Bd, Rw1, Idx, CtRvl). No condition. -/
import Derived.Test.YtbhjljnbjomnhaaG08
import Derived.Test.YtbhjljnbjomnhaaG05
import Derived.Test.YtbhjljnbjomnhaaG06
import Derived.Test.YtbhjljnbjomnhaaG07
import Derived.Test.YtbhjljnbjomnhaaG04
set_option linter.unusedSimpArgs false
set_option linter.unusedVariables false
set_option linter.unusedSectionVars false
set_option linter.unnecessarySimpa false
namespace Go.Proofs.Ytbhjljnbjomnhaa
open Go.RowKit

theorem callsCode_any (A B : Option Addr) (c d : Nat) (ts : List Int) (l : List Ev) (w : World) (hts : ts.length ≤ 9223372036854775807) (hl : l.length ≤ 9223372036854775807) (hT : RdInt w A ts) (hA : RdEv w B l) :
    Calls Try.prog 98 #[.slice A ts.length c, .slice B l.length d] w fun e w' => ∃ A' c', e = .returned (.tuple #[.slice A' (callsR ts l).1.length c', .int .i64 (callsR ts l).2.1, .int .i64 (callsR ts l).2.2]) ∧
      Own Cl.enc 7 43 w' w.heap.size (.slice A' (callsR ts l).1.length c') (callsR ts l).1 ∧ Below w.heap.size w w' := by
  rw [← calls_same]
  exact calls_any A B c d ts l w hts hl hT hA
theorem callsR_len (ts : List Int) (l : List Ev) : (callsR ts l).1.length ≤ 200 := by
  unfold callsR
  split
  · simp
  · split
    · simp
    · split
      · simp
      · have := stP_len ts l l.length
        rw [(run_same ts l l.length).1] at this
        show (stR ts l l.length).length ≤ 200
        omega
/-- what is so of each call that a reading keeps -/
structure ClOk (ts : List Int) (i : Int) (c : Cl) : Prop where
  who : 0 ≤ c.who ∧ c.who < 8
  thing : 0 ≤ c.thing ∧ c.thing < ts.length
  kind : (kindsL (ts.getD c.thing.toNat 0)).contains c.kind = true
  arg : argB c.kind c.arg = true
  place : 0 ≤ c.from_ ∧ c.from_ < i
structure ClsOk (ts : List Int) (i : Int) (cs : List Cl) : Prop where
  each : ∀ q (h : q < cs.length), ClOk ts i cs[q]
  rising : ∀ p q (h1 : p < q) (h : q < cs.length), cs[p].from_ < cs[q].from_
theorem ClOk.mono {ts : List Int} {i j : Int} {c : Cl} (h : ClOk ts i c) (hij : i ≤ j) : ClOk ts j c := ⟨h.who, h.thing, h.kind, h.arg, by have := h.place; omega⟩
theorem clsOk_step {ts : List Int} {i : Int} {cs : List Cl} (x : Ev) (hi : 0 ≤ i) (h : ClsOk ts i cs) : ClsOk ts (i + 1) (evR ts cs i x).2 := by
  have keep : ClsOk ts (i + 1) cs := ⟨fun q hq => (h.each q hq).mono (by omega), h.rising⟩
  unfold evR
  by_cases hf : formBad ts x = true
  · rw [if_pos hf]; exact keep
  · rw [if_neg hf]
    have hf' : formBad ts x = false := by simpa using hf
    by_cases hk : x.kind = 0
    · rw [if_pos hk]
      split
      · exact keep
      · split
        · rename_i hz hc
          obtain ⟨m, hm⟩ : ∃ m, (openTo cs x.who cs.length).toNat = m := ⟨_, rfl⟩
          have hlt := openTo_lt cs x.who cs.length
          have hml : m < cs.length := by omega
          rw [hm]
          have hd : cs.getD m default = cs[m] := by simp [hml]
          rw [hd]
          dsimp only
          refine ⟨fun q hq => ?_, fun p q hpq hq => ?_⟩
          · have hq' : q < cs.length := by simpa using hq
            have hc' := keep.each q hq'
            rw [List.getElem_set]
            split
            · rename_i e
              subst e
              exact ⟨hc'.who, hc'.thing, hc'.kind, hc'.arg, hc'.place⟩
            · exact hc'
          · have hq' : q < cs.length := by simpa using hq
            have hr := h.rising p q hpq hq'
            rw [List.getElem_set, List.getElem_set]
            split <;> split <;> (subst_vars; first | exact hr | omega)
        · exact keep
    · rw [if_neg hk]
      split
      · exact keep
      · split
        · exact keep
        · rename_i hb _
          simp only [formBad, Bool.or_eq_false_iff, decide_eq_false_iff_not] at hf'
          have hb' : ((kindsL (ts.getD x.thing.toNat 0)).contains x.kind && argB x.kind x.value) = true := by simpa using hb
          rw [Bool.and_eq_true] at hb'
          dsimp only
          refine ⟨fun q hq => ?_, fun p q hpq hq => ?_⟩
          · by_cases e : q < cs.length
            · rw [List.getElem_append_left e]; exact keep.each q e
            · rw [List.getElem_append_right (by omega)]
              simp only [List.getElem_singleton]
              exact ⟨by dsimp only; omega, by dsimp only; omega, hb'.1, hb'.2, by dsimp only; omega⟩
          · simp only [List.length_append, List.length_cons, List.length_nil] at hq
            by_cases e : q < cs.length
            · rw [List.getElem_append_left e, List.getElem_append_left (by omega)]; exact h.rising p q hpq e
            · rw [List.getElem_append_left (show p < cs.length by omega), List.getElem_append_right (by omega)]
              simp only [List.getElem_singleton]
              have := (h.each p (by omega)).place
              omega
theorem clsOk_st (ts : List Int) (l : List Ev) : ∀ k : Nat, ClsOk ts (k : Int) (stR ts l k)
  | 0 => ⟨fun q h => by simp [stR] at h, fun p q _ h => by simp [stR] at h⟩
  | k + 1 => by
    have := clsOk_step (ts := ts) (i := k) (l.getD k default) (by omega) (clsOk_st ts l k)
    rw [stR]
    exact this
/-- the calls that a reading gives -/
theorem callsR_inv {ts : List Int} {l : List Ev} (h : (callsR ts l).2.2 = 0) : typesOk ts = true ∧ l.length ≤ 200 ∧ (∀ j, j < l.length → erR ts l j = 0) ∧ (callsR ts l).1 = stR ts l l.length := by
  by_cases h1 : typesOk ts = true
  · by_cases h2 : 200 < l.length
    · rw [callsR_long h1 h2] at h; cases h
    · rcases Nat.lt_or_ge (failR ts l) l.length with hf | hf
      · exfalso
        have hk : ∃ k, k < l.length ∧ (∀ j, j < k → erR ts l j = 0) ∧ erR ts l k ≠ 0 := by
          unfold failR at hf
          cases hc : (List.range l.length).find? fun k => decide (erR ts l k ≠ 0) with
          | none => rw [hc] at hf; simp at hf
          | some k =>
            rw [List.find?_range_eq_some] at hc
            exact ⟨k, by simpa using hc.2.1, fun j hj => by simpa using hc.2.2 j hj, by simpa using hc.1⟩
        obtain ⟨k, a, b, c⟩ := hk
        rw [callsR_err h1 (by omega) a b rfl c] at h
        exact c h
      · have hall : ∀ j, j < l.length → erR ts l j = 0 := by
          intro j hj
          refine Decidable.byContradiction fun hn => ?_
          unfold failR at hf
          cases hc : (List.range l.length).find? fun k => decide (erR ts l k ≠ 0) with
          | none =>
            rw [List.find?_eq_none] at hc
            have := hc j (by simpa using hj)
            simp only [decide_eq_true_eq] at this
            exact this hn
          | some k =>
            rw [hc] at hf
            rw [List.find?_range_eq_some] at hc
            have h3 : k < l.length := by simpa using hc.2.1
            simp at hf
            omega
        refine ⟨h1, by omega, hall, ?_⟩
        rw [callsR_ok h1 (by omega) hall]
  · rw [callsR_types (by simpa using h1)] at h; cases h
/-- the same value written twice to one -/
def dupB (x y : Cl) : Bool := decide (x.kind = 1) && (decide (y.kind = 1) && (decide (x.thing = y.thing) && decide (x.arg = y.arg)))
theorem dupB_symm (x y : Cl) : dupB x y = dupB y x := by
  rw [Bool.eq_iff_iff]
  simp only [dupB, Bool.and_eq_true, decide_eq_true_eq]
  constructor <;> (rintro ⟨a, b, c, d⟩; exact ⟨b, a, c.symm, d.symm⟩)
def regsOk (ts : List Int) : Prop := ∀ j (h : j < ts.length), ts[j] = 1
def callOk (cs : List Cl) (i : Nat) : Prop := ∀ h : i < cs.length, cs[i].to ≠ -1 ∧ ∀ j (hj : j < i), dupB cs[i] cs[j] = false
def goodC (ts : List Int) (cs : List Cl) : Prop := regsOk ts ∧ ∀ i, i < cs.length → callOk cs i
open Classical in
noncomputable def fewR (ts : List Int) (l : List Ev) : List Cl × Int :=
  if (callsR ts l).2.2 ≠ 0 then ([], (callsR ts l).2.2)
  else if ¬ goodC ts (callsR ts l).1 then ([], 6)
  else if 7 < (callsR ts l).1.length then ([], 2)
  else ((callsR ts l).1, 0)
theorem fewR_err {ts : List Int} {l : List Ev} {e : Int} (h : (callsR ts l).2.2 = e) (hn : ¬ e = 0) : fewR ts l = ([], e) := by
  unfold fewR; rw [if_pos (by rw [h]; exact hn), h]
theorem fewR_class {ts : List Int} {l : List Ev} {cs : List Cl} {k : Int} (h : callsR ts l = (cs, k, 0)) (hn : ¬ goodC ts cs) : fewR ts l = ([], 6) := by
  unfold fewR; rw [if_neg (by rw [h]; simp), h]; dsimp only; rw [if_pos hn]
theorem fewR_large {ts : List Int} {l : List Ev} {cs : List Cl} {k : Int} (h : callsR ts l = (cs, k, 0)) (hn : goodC ts cs) (h7 : 7 < cs.length) : fewR ts l = ([], 2) := by
  unfold fewR; rw [if_neg (by rw [h]; simp), h]; dsimp only; rw [if_neg (by simpa using hn), if_pos h7]
theorem fewR_ok {ts : List Int} {l : List Ev} {cs : List Cl} {k : Int} (h : callsR ts l = (cs, k, 0)) (hn : goodC ts cs) (h7 : ¬ 7 < cs.length) : fewR ts l = (cs, 0) := by
  unfold fewR; rw [if_neg (by rw [h]; simp), h]; dsimp only; rw [if_neg (by simpa using hn), if_neg h7]
/-- what the calls are, where there are few -/
structure Few (cs : List Cl) : Prop where
  len : cs.length ≤ 7
  who : ∀ q (h : q < cs.length), 0 ≤ cs[q].who ∧ cs[q].who < 8
  thing : ∀ q (h : q < cs.length), 0 ≤ cs[q].thing ∧ cs[q].thing < 4
  kind : ∀ q (h : q < cs.length), cs[q].kind = 1 ∨ cs[q].kind = 2
  rising : ∀ p q (h1 : p < q) (h : q < cs.length), cs[p].from_ < cs[q].from_
theorem few_of {ts : List Int} {l : List Ev} (h : (fewR ts l).2 = 0) : Few (fewR ts l).1 := by
  by_cases h0 : (callsR ts l).2.2 = 0
  · obtain ⟨cs, k, z, hc⟩ : ∃ cs k z, callsR ts l = (cs, k, z) := ⟨_, _, _, rfl⟩
    have hz : z = 0 := by rw [hc] at h0; exact h0
    subst hz
    obtain ⟨t1, _, _, t4⟩ := callsR_inv h0
    by_cases hg : goodC ts cs
    · by_cases h7 : 7 < cs.length
      · rw [fewR_large hc hg h7] at h; cases h
      · rw [fewR_ok hc hg h7]
        dsimp only
        have hcs : cs = stR ts l l.length := by rw [hc] at t4; exact t4
        have hI := clsOk_st ts l l.length
        rw [← hcs] at hI
        have hlen : ts.length ≤ 4 := by
          unfold typesOk at t1
          simp only [Bool.and_eq_true, decide_eq_true_eq] at t1
          exact t1.1.2
        refine ⟨by omega, fun q hq => (hI.each q hq).who, fun q hq => ?_, fun q hq => ?_, hI.rising⟩
        · have := (hI.each q hq).thing; omega
        · have hk := (hI.each q hq).kind
          have ht := (hI.each q hq).thing
          have e : ts.getD cs[q].thing.toNat 0 = 1 := by
            rw [List.getD_eq_getElem?_getD, List.getElem?_eq_getElem (by omega)]
            exact hg.1 _ _
          rw [e] at hk
          simp [kindsL] at hk
          exact hk
    · rw [fewR_class hc hg] at h; cases h
  · rw [fewR_err rfl h0] at h
    exact absurd h h0
end Go.Proofs.Ytbhjljnbjomnhaa

namespace Go.Proofs.Ytbhjljnbjomnhaa
open Go.RowKit

/-- what is so of the times of the calls that a reading keeps -/
structure ClsTo (i : Int) (cs : List Cl) : Prop where
  to : ∀ q (h : q < cs.length), cs[q].to = -1 ∨ (cs[q].from_ < cs[q].to ∧ cs[q].to < i)
  one : ∀ p q (h1 : p < q) (h : q < cs.length), cs[p].who = cs[q].who → cs[p].to ≠ -1 ∧ cs[p].to < cs[q].from_
theorem clsTo_step {ts : List Int} {i : Int} {cs : List Cl} (x : Ev) (hi : 0 ≤ i) (hp : ∀ q (h : q < cs.length), cs[q].from_ < i) (h : ClsTo i cs) : ClsTo (i + 1) (evR ts cs i x).2 := by
  have keep : ClsTo (i + 1) cs := ⟨fun q hq => by rcases h.to q hq with h1 | h1; exact .inl h1; exact .inr ⟨h1.1, by omega⟩, h.one⟩
  unfold evR
  by_cases hf : formBad ts x = true
  · rw [if_pos hf]; exact keep
  · rw [if_neg hf]
    by_cases hk : x.kind = 0
    · rw [if_pos hk]
      split
      · exact keep
      · split
        · rename_i hz hc
          have hlt := openTo_lt cs x.who cs.length
          obtain ⟨m, hm, hml, hmw, hmt⟩ := openTo_at (cs := cs) (who := x.who) cs.length (by omega)
          have hmt' : (openTo cs x.who cs.length).toNat = m := by omega
          rw [hmt']
          have hd : cs.getD m default = cs[m] := by simp [hml]
          rw [hd] at hmw hmt ⊢
          dsimp only
          refine ⟨fun q hq => ?_, fun p q hpq hq => ?_⟩
          · have hq' : q < cs.length := by simpa using hq
            rw [List.getElem_set]
            split
            · exact .inr ⟨hp m hml, by dsimp only; omega⟩
            · exact keep.to q hq'
          · have hq' : q < cs.length := by simpa using hq
            have ho := h.one p q hpq hq'
            rw [List.getElem_set, List.getElem_set]
            split <;> split
            · omega
            · rename_i e1 e2
              subst e1
              intro e
              exact absurd hmt (ho e).1
            · rename_i e1 e2
              subst e2
              exact ho
            · exact ho
        · exact keep
    · rw [if_neg hk]
      split
      · exact keep
      · split
        · exact keep
        · rename_i hop
          dsimp only
          refine ⟨fun q hq => ?_, fun p q hpq hq => ?_⟩
          · by_cases e : q < cs.length
            · rw [List.getElem_append_left e]; exact keep.to q e
            · rw [List.getElem_append_right (by omega)]
              simp
          · simp only [List.length_append, List.length_cons, List.length_nil] at hq
            by_cases e : q < cs.length
            · rw [List.getElem_append_left e, List.getElem_append_left (by omega)]; exact h.one p q hpq e
            · have hpl : p < cs.length := by omega
              rw [List.getElem_append_left hpl, List.getElem_append_right (by omega)]
              simp only [List.getElem_singleton]
              intro ew
              have hd : cs.getD p default = cs[p] := by simp [hpl]
              have hto : cs[p].to ≠ -1 := fun et => by
                have h1 := openTo_some (cs := cs) (who := x.who) (j := p) cs.length hpl (by rw [hd]; exact ⟨ew, et⟩)
                have := openTo_lt cs x.who cs.length
                omega
              refine ⟨hto, ?_⟩
              rcases h.to p hpl with h1 | h1
              · exact absurd h1 hto
              · exact h1.2
theorem clsTo_st (ts : List Int) (l : List Ev) : ∀ k : Nat, ClsTo (k : Int) (stR ts l k)
  | 0 => ⟨fun q h => by simp [stR] at h, fun p q _ h => by simp [stR] at h⟩
  | k + 1 => by
    have := clsTo_step (ts := ts) (i := k) (l.getD k default) (by omega) (fun q hq => ((clsOk_st ts l k).each q hq).place.2) (clsTo_st ts l k)
    rw [stR]
    exact this
/-- what else is so of them -/
structure ClsMore (i : Int) (cs : List Cl) : Prop where
  lt : ∀ q (h : q < cs.length), cs[q].to < i ∧ cs[q].from_ < i ∧ 0 ≤ cs[q].from_
  ne : ∀ p q (h1 : p < cs.length) (h2 : q < cs.length), cs[p].to ≠ cs[q].from_
  res : ∀ q (h : q < cs.length), cs[q].to = -1 → cs[q].res = 0
  ans : ∀ q (h : q < cs.length), cs[q].to ≠ -1 → ansB cs[q].kind cs[q].res = true
theorem clsMore_step {ts : List Int} {i : Int} {cs : List Cl} (x : Ev) (hi : 0 ≤ i) (h : ClsMore i cs) : ClsMore (i + 1) (evR ts cs i x).2 := by
  have keep : ClsMore (i + 1) cs := ⟨fun q hq => by have := h.lt q hq; omega, h.ne, h.res, h.ans⟩
  unfold evR
  by_cases hf : formBad ts x = true
  · rw [if_pos hf]; exact keep
  · rw [if_neg hf]
    by_cases hk : x.kind = 0
    · rw [if_pos hk]
      split
      · exact keep
      · split
        · rename_i hz hc
          have hlt := openTo_lt cs x.who cs.length
          obtain ⟨m, hm, hml, hmw, hmt⟩ := openTo_at (cs := cs) (who := x.who) cs.length (by omega)
          have hmt' : (openTo cs x.who cs.length).toNat = m := by omega
          rw [hmt'] at hc ⊢
          have hd : cs.getD m default = cs[m] := by simp [hml]
          rw [hd] at hmw hmt hc ⊢
          dsimp only
          have hfr : ∀ q (hq : q < (cs.set m { cs[m] with res := x.value, to := i }).length), ((cs.set m { cs[m] with res := x.value, to := i })[q]).from_ = (cs[q]'(by simpa using hq)).from_ := fun q hq => by
            rw [List.getElem_set]
            split
            · rename_i e; subst e; rfl
            · rfl
          refine ⟨fun q hq => ?_, fun p q hp hq => ?_, fun q hq => ?_, fun q hq => ?_⟩
          · have hq' : q < cs.length := by simpa using hq
            have := h.lt q hq'
            rw [hfr, List.getElem_set]
            split
            · dsimp only; omega
            · omega
          · have hp' : p < cs.length := by simpa using hp
            have hq' : q < cs.length := by simpa using hq
            have h1 := h.lt q hq'
            have h2 := h.ne p q hp' hq'
            rw [hfr, List.getElem_set]
            split
            · dsimp only; omega
            · exact h2
          · have hq' : q < cs.length := by simpa using hq
            rw [List.getElem_set]
            split
            · dsimp only; intro e; omega
            · exact h.res q hq'
          · have hq' : q < cs.length := by simpa using hq
            rw [List.getElem_set]
            split
            · dsimp only; intro _; exact hc.2
            · exact h.ans q hq'
        · exact keep
    · rw [if_neg hk]
      split
      · exact keep
      · split
        · exact keep
        · rename_i hop
          dsimp only
          have hlast : ∀ q (hq : q < (cs ++ [(⟨x.who, x.thing, x.kind, x.value, 0, i, -1⟩ : Cl)]).length), (∃ hq' : q < cs.length, (cs ++ [(⟨x.who, x.thing, x.kind, x.value, 0, i, -1⟩ : Cl)])[q] = cs[q]) ∨ (cs ++ [(⟨x.who, x.thing, x.kind, x.value, 0, i, -1⟩ : Cl)])[q] = ⟨x.who, x.thing, x.kind, x.value, 0, i, -1⟩ := fun q hq => by
            by_cases e : q < cs.length
            · exact .inl ⟨e, List.getElem_append_left e⟩
            · right
              rw [List.getElem_append_right (by omega)]
              simp
          refine ⟨fun q hq => ?_, fun p q hp hq => ?_, fun q hq => ?_, fun q hq => ?_⟩
          · rcases hlast q hq with ⟨e, e1⟩ | e1
            · rw [e1]; have := h.lt q e; omega
            · rw [e1]; dsimp only; omega
          · rcases hlast q hq with ⟨e, e1⟩ | e1 <;> rcases hlast p hp with ⟨g, g1⟩ | g1
            · rw [e1, g1]; exact h.ne p q g e
            · rw [e1, g1]; have := h.lt q e; dsimp only; omega
            · rw [e1, g1]; have := h.lt p g; dsimp only; omega
            · rw [e1, g1]; dsimp only; omega
          · rcases hlast q hq with ⟨e, e1⟩ | e1
            · rw [e1]; exact h.res q e
            · rw [e1]; exact fun _ => rfl
          · rcases hlast q hq with ⟨e, e1⟩ | e1
            · rw [e1]; exact h.ans q e
            · rw [e1]; dsimp only; intro e2; exact absurd rfl e2
theorem clsMore_st (ts : List Int) (l : List Ev) : ∀ k : Nat, ClsMore (k : Int) (stR ts l k)
  | 0 => ⟨fun q h => by simp [stR] at h, fun p q h => by simp [stR] at h, fun q h => by simp [stR] at h, fun q h => by simp [stR] at h⟩
  | k + 1 => by
    have := clsMore_step (ts := ts) (i := k) (l.getD k default) (by omega) (clsMore_st ts l k)
    rw [stR]
    exact this
/-- all that is so of the calls of a reading -/
theorem callsR_all {ts : List Int} {l : List Ev} (h : (callsR ts l).2.2 = 0) : l.length ≤ 200 ∧ ClsOk ts 200 (callsR ts l).1 ∧ ClsTo 200 (callsR ts l).1 ∧ ClsMore 200 (callsR ts l).1 := by
  obtain ⟨h1, h2, _, h4⟩ := callsR_inv h
  have hc := clsOk_st ts l l.length
  have ht := clsTo_st ts l l.length
  have hm := clsMore_st ts l l.length
  rw [← h4] at hc ht hm
  exact ⟨h2, ⟨fun q hq => (hc.each q hq).mono (by omega), hc.rising⟩, ⟨fun q hq => by rcases ht.to q hq with h1 | h1; exact .inl h1; exact .inr ⟨h1.1, Int.lt_of_lt_of_le h1.2 (by omega)⟩, ht.one⟩,
    ⟨fun q hq => by have := hm.lt q hq; omega, hm.ne, hm.res, hm.ans⟩⟩
end Go.Proofs.Ytbhjljnbjomnhaa

namespace Go.Proofs.Ytbhjljnbjomnhaa
open Go.RowKit

structure Bd where
  kind : Int
  a : Int
  b : Int
  deriving DecidableEq, Inhabited
def Bd.enc (x : Bd) : List Value := [.int .i64 x.kind, .int .i64 x.a, .int .i64 x.b]
def clK (cs : List Cl) (i : Nat) : Cl := cs.getD i default
theorem clK_eq {cs : List Cl} {i : Nat} (h : i < cs.length) : clK cs i = cs[i] := by simp [clK, h]
/-- the first place where something is so; -1: there is none -/
def ixN (n : Nat) (P : Nat → Bool) : Int := match firstN n P with | some k => (k : Int) | none => -1
theorem ixN_none {n : Nat} {P : Nat → Bool} (h : ∀ i, i < n → P i = false) : ixN n P = -1 := by
  unfold ixN; rw [firstN_none h]
theorem ixN_at {n i : Nat} {P : Nat → Bool} (hi : i < n) (h1 : ∀ j, j < i → P j = false) (h : P i = true) : ixN n P = (i : Int) := by
  unfold ixN; rw [firstN_at hi h1 h]
theorem ixN_cases (n : Nat) (P : Nat → Bool) : (ixN n P = -1 ∧ ∀ i, i < n → P i = false) ∨ ∃ k : Nat, k < n ∧ ixN n P = (k : Int) ∧ P k = true ∧ ∀ j, j < k → P j = false := by
  unfold ixN
  cases h : firstN n P with
  | none => exact .inl ⟨rfl, firstN_no h⟩
  | some k =>
    obtain ⟨h1, h2, h3⟩ := firstN_some h
    exact .inr ⟨k, h1, rfl, h2, h3⟩
theorem ixN_bd (n : Nat) (P : Nat → Bool) : -1 ≤ ixN n P ∧ ixN n P < n := by
  rcases ixN_cases n P with ⟨h, _⟩ | ⟨k, h1, h2, _⟩ <;> omega
theorem ixN_neg {n : Nat} {P : Nat → Bool} : ixN n P < 0 ↔ ∀ i, i < n → P i = false := by
  rcases ixN_cases n P with ⟨h, h2⟩ | ⟨k, h1, h2, h3, _⟩
  · exact ⟨fun _ => h2, fun _ => by omega⟩
  · exact ⟨fun e => by omega, fun e => by rw [e k h1] at h3; cases h3⟩
theorem ixN_succ (n : Nat) (P : Nat → Bool) : ixN (n + 1) P = if 0 ≤ ixN n P then ixN n P else if P n = true then (n : Int) else -1 := by
  rcases ixN_cases n P with ⟨h, h2⟩ | ⟨k, h1, h2, h3, h4⟩
  · rw [if_neg (by omega)]
    split
    · rename_i e; exact ixN_at (by omega) h2 e
    · rename_i e
      exact ixN_none fun i hi => by
        by_cases q : i = n
        · subst q; exact Bool.eq_false_iff.2 e
        · exact h2 i (by omega)
  · rw [if_pos (by omega), h2]; exact ixN_at (by omega) h4 h3
theorem ixN_of {n i : Nat} {P : Nat → Bool} (hi : i < n) (h : P i = true) : 0 ≤ ixN n P ∧ ixN n P ≤ i := by
  rcases ixN_cases n P with ⟨_, h2⟩ | ⟨k, h1, h2, h3, h4⟩
  · rw [h2 i hi] at h; cases h
  · refine ⟨by omega, ?_⟩
    rcases Nat.lt_or_ge i k with e | e
    · rw [h4 i e] at h; cases h
    · omega
theorem ixN_congr {n : Nat} {P Q : Nat → Bool} (h : ∀ i, i < n → P i = Q i) : ixN n P = ixN n Q := by
  rcases ixN_cases n Q with ⟨h1, h2⟩ | ⟨k, h1, h2, h3, h4⟩
  · rw [h1]; exact ixN_none fun i hi => by rw [h i hi]; exact h2 i hi
  · rw [h2]; exact ixN_at h1 (fun j hj => by rw [h j (by omega)]; exact h4 j hj) (by rw [h k h1]; exact h3)
/-! lists sorted by a key -/
theorem key_inj {α : Type} {key : α → Int} {W : List α} (hw : W.Pairwise fun a b => key a < key b) {a b : α} (ha : a ∈ W) (hb : b ∈ W) (h : key a = key b) : a = b := by
  obtain ⟨i, hi, rfl⟩ := List.mem_iff_getElem.1 ha
  obtain ⟨j, hj, rfl⟩ := List.mem_iff_getElem.1 hb
  rw [List.pairwise_iff_getElem] at hw
  rcases Nat.lt_trichotomy i j with e | e | e
  · have := hw i j hi hj e; omega
  · subst e; rfl
  · have := hw j i hj hi e; omega
theorem sort_eq {α : Type} {key : α → Int} {S W : List α} (hp : S.Perm W) (hs : S.Pairwise fun a b => key a ≤ key b) (hw : W.Pairwise fun a b => key a < key b) : S = W :=
  List.Perm.eq_of_pairwise (le := fun a b => key a ≤ key b) (fun _ _ ha hb h1 h2 => key_inj hw (hp.mem_iff.1 ha) hb (by omega)) hs (hw.imp fun h => by omega) hp
theorem filt_map {α β γ : Type} (p : α → Bool) (f : α → β) (g : β → Option γ) : ∀ l : List α, ((l.filter p).map f).filterMap g = l.filterMap fun v => if p v = true then g (f v) else none
  | [] => rfl
  | x :: l => by
    have ih := filt_map p f g l
    rw [List.filter_cons, List.filterMap_cons]
    cases h : p x
    · rw [if_neg (by decide)]; exact ih
    · simp only [if_true, List.map_cons, List.filterMap_cons]
      cases g (f x) <;> simp [ih]
/-! the first of a list, and the first two -/
def pairL {α : Type} (L : List α) (P : α → α → Bool) : Option (α × α) :=
  match L.find? (fun a => L.any (P a)) with
  | none => none
  | some a => (L.find? (P a)).map fun b => (a, b)
theorem find_filt {α : Type} {P q : α → Bool} {L : List α} (h : ∀ a, P a = true → q a = true) : (L.filter q).find? P = L.find? P := by
  rw [List.find?_filter]
  congr 1
  funext a
  cases e : P a
  · simp
  · simp [h a e]
theorem any_filt {α : Type} {P q : α → Bool} {L : List α} (h : ∀ a, P a = true → q a = true) : (L.filter q).any P = L.any P := by
  rw [Bool.eq_iff_iff, List.any_eq_true, List.any_eq_true]
  exact ⟨fun ⟨x, h1, h2⟩ => ⟨x, (List.mem_filter.1 h1).1, h2⟩, fun ⟨x, h1, h2⟩ => ⟨x, List.mem_filter.2 ⟨h1, h x h2⟩, h2⟩⟩
theorem pairL_filt {α : Type} {P : α → α → Bool} {q : α → Bool} {L : List α} (h : ∀ a b, P a b = true → q a = true ∧ q b = true) : pairL (L.filter q) P = pairL L P := by
  unfold pairL
  have e1 : (fun a => (L.filter q).any (P a)) = fun a => L.any (P a) := by
    funext a; exact any_filt fun b hb => (h a b hb).2
  rw [e1, find_filt (fun a ha => by
    obtain ⟨b, _, hb⟩ := List.any_eq_true.1 ha
    exact (h a b hb).1)]
  cases L.find? (fun a => L.any (P a)) with
  | none => rfl
  | some a => dsimp only; rw [find_filt fun b hb => (h a b hb).2]
theorem find_at {α : Type} {P : α → Bool} {L : List α} {i : Nat} (hi : i < L.length) (h1 : ∀ j (hj : j < i), P (L[j]'(by omega)) = false) (h : P L[i] = true) : L.find? P = some L[i] := by
  rw [List.find?_eq_some_iff_getElem]
  exact ⟨h, i, hi, rfl, fun j hj => by rw [h1 j hj]; rfl⟩
theorem pairL_none {α : Type} {P : α → α → Bool} {L : List α} (h : ∀ i (hi : i < L.length) k (hk : k < L.length), P L[i] L[k] = false) : pairL L P = none := by
  unfold pairL
  rw [List.find?_eq_none.2 fun a ha => by
    obtain ⟨i, hi, rfl⟩ := List.mem_iff_getElem.1 ha
    rw [Bool.not_eq_true, List.any_eq_false]
    intro b hb
    obtain ⟨k, hk, rfl⟩ := List.mem_iff_getElem.1 hb
    rw [h i hi k hk]; decide]
theorem pairL_at {α : Type} {P : α → α → Bool} {L : List α} {i k : Nat} (hi : i < L.length) (hk : k < L.length) (h1 : ∀ j (hj : j < i) q (hq : q < L.length), P (L[j]'(by omega)) L[q] = false) (h2 : ∀ q (hq : q < k), P L[i] (L[q]'(by omega)) = false) (h : P L[i] L[k] = true) : pairL L P = some (L[i], L[k]) := by
  unfold pairL
  rw [find_at (P := fun a => L.any (P a)) hi (fun j hj => by
    rw [List.any_eq_false]
    intro b hb
    obtain ⟨q, hq, rfl⟩ := List.mem_iff_getElem.1 hb
    rw [h1 j hj q hq]; decide) (List.any_eq_true.2 ⟨_, List.getElem_mem hk, h⟩)]
  dsimp only
  rw [find_at hk h2 h]; rfl
theorem pairL_no {α : Type} {P : α → α → Bool} {L : List α} (h : pairL L P = none) : ∀ a ∈ L, ∀ b ∈ L, P a b = false := by
  intro a ha b hb
  unfold pairL at h
  cases e : L.find? (fun a => L.any (P a)) with
  | none =>
    have := List.find?_eq_none.1 e a ha
    rw [Bool.not_eq_true, List.any_eq_false] at this
    exact Bool.eq_false_iff.2 (this b hb)
  | some x =>
    rw [e] at h
    dsimp only at h
    rw [Option.map_eq_none_iff, List.find?_eq_none] at h
    have := List.find?_some e
    rw [List.any_eq_true] at this
    obtain ⟨y, hy, hxy⟩ := this
    exact absurd hxy (h y hy)
end Go.Proofs.Ytbhjljnbjomnhaa

namespace Go.Proofs.Ytbhjljnbjomnhaa
open Go.RowKit

structure Rvl where
  n : Int
  enq : Int
  deq : Int
  deriving DecidableEq, Inhabited
def Rvl.enc (v : Rvl) : List Value := [.int .i64 v.n, .int .i64 v.enq, .int .i64 v.deq]
structure Spn where
  frm : Int
  til : Int
  deriving DecidableEq, Inhabited
def Spn.enc (s : Spn) : List Value := [.int .i64 s.frm, .int .i64 s.til]
def isPut (cs : List Cl) (v : Int) (i : Nat) : Bool := decide ((clK cs i).kind = 3) && decide ((clK cs i).arg = v)
def isGot (cs : List Cl) (v : Int) (i : Nat) : Bool := decide ((clK cs i).kind = 4) && decide ((clK cs i).res = v)
def putBy (cs : List Cl) (v : Int) : Int := ixN cs.length (isPut cs v)
def gotK (cs : List Cl) (v : Int) (k : Nat) : Int := ixN k (isGot cs v)
def gotBy (cs : List Cl) (v : Int) : Int := gotK cs v cs.length
/-- a call that may not be -/
def clsB (cs : List Cl) (i : Nat) : Bool :=
  (decide ((clK cs i).kind = 4) && decide ((clK cs i).to = -1)) || (decide ((clK cs i).kind = 3) && (List.range i).any fun j => decide ((clK cs j).kind = 3) && decide ((clK cs j).arg = (clK cs i).arg))
def onceR (l : List Ev) : List Cl × Int :=
  if (callsR [2] l).2.2 ≠ 0 then ([], (callsR [2] l).2.2) else if (List.range (callsR [2] l).1.length).any (clsB (callsR [2] l).1) = true then ([], 6) else ((callsR [2] l).1, 0)
/-- what is so of the calls of a queue that are looked at -/
structure QuOk (cs : List Cl) : Prop where
  few : cs.length ≤ 200
  kind : ∀ k, k < cs.length → (clK cs k).kind = 3 ∨ (clK cs k).kind = 4
  put : ∀ k, k < cs.length → (clK cs k).kind = 3 → 1 ≤ (clK cs k).arg ∧ (clK cs k).arg ≤ 1000 ∧ (clK cs k).res = 0
  got : ∀ k, k < cs.length → (clK cs k).kind = 4 → (clK cs k).to ≠ -1 ∧ ((clK cs k).res = -1 ∨ (1 ≤ (clK cs k).res ∧ (clK cs k).res ≤ 1000))
  to : ∀ k, k < cs.length → (clK cs k).to = -1 ∨ (0 ≤ (clK cs k).to ∧ (clK cs k).to < 200)
  frm : ∀ k, k < cs.length → 0 ≤ (clK cs k).from_ ∧ (clK cs k).from_ < 200
  ne : ∀ p q, p < cs.length → q < cs.length → (clK cs p).to ≠ (clK cs q).from_
  one : ∀ i j, j < i → i < cs.length → (clK cs i).kind = 3 → (clK cs j).kind = 3 → (clK cs j).arg ≠ (clK cs i).arg
/-- what is so of all calls of a queue -/
structure QuAll (cs : List Cl) : Prop where
  few : cs.length ≤ 200
  kind : ∀ k, k < cs.length → (clK cs k).kind = 3 ∨ (clK cs k).kind = 4
  put : ∀ k, k < cs.length → (clK cs k).kind = 3 → 1 ≤ (clK cs k).arg ∧ (clK cs k).arg ≤ 1000 ∧ (clK cs k).res = 0
  got : ∀ k, k < cs.length → (clK cs k).kind = 4 → (clK cs k).to ≠ -1 → (clK cs k).res = -1 ∨ (1 ≤ (clK cs k).res ∧ (clK cs k).res ≤ 1000)
  to : ∀ k, k < cs.length → (clK cs k).to = -1 ∨ (0 ≤ (clK cs k).to ∧ (clK cs k).to < 200)
  frm : ∀ k, k < cs.length → 0 ≤ (clK cs k).from_ ∧ (clK cs k).from_ < 200
  ne : ∀ p q, p < cs.length → q < cs.length → (clK cs p).to ≠ (clK cs q).from_
theorem quAll_of {l : List Ev} (h : (callsR [2] l).2.2 = 0) : QuAll (callsR [2] l).1 := by
  obtain ⟨_, h2, h3, h4⟩ := callsR_all h
  have hkind : ∀ k (hk : k < (callsR [2] l).1.length), (callsR [2] l).1[k].kind = 3 ∨ (callsR [2] l).1[k].kind = 4 := fun k hk => by
    have h5 := (h2.each k hk).thing
    have h6 := (h2.each k hk).kind
    have e : (callsR [2] l).1[k].thing.toNat = 0 := by simp at h5; omega
    rw [e] at h6
    simpa [kindsL] using h6
  refine ⟨callsR_len _ _, fun k hk => ?_, fun k hk h3' => ?_, fun k hk h4' ht => ?_, fun k hk => ?_, fun k hk => ?_, fun p q hp hq => ?_⟩
  · rw [clK_eq hk]; exact hkind k hk
  · rw [clK_eq hk] at h3' ⊢
    have ha := (h2.each k hk).arg
    rw [h3'] at ha
    have ha : 1 ≤ (callsR [2] l).1[k].arg ∧ (callsR [2] l).1[k].arg ≤ 1000 := by simpa [argB] using ha
    refine ⟨ha.1, ha.2, ?_⟩
    by_cases e : (callsR [2] l).1[k].to = -1
    · exact h4.res k hk e
    · have hb := h4.ans k hk e
      rw [h3'] at hb
      simpa [ansB] using hb
  · rw [clK_eq hk] at h4' ht ⊢
    have hb := h4.ans k hk ht
    rw [h4'] at hb
    simpa [ansB] using hb
  · rw [clK_eq hk]
    have := h4.lt k hk
    rcases h3.to k hk with h | h
    · exact .inl h
    · right; omega
  · rw [clK_eq hk]
    have := h4.lt k hk
    have := (h2.each k hk).place
    omega
  · rw [clK_eq hp, clK_eq hq]; exact h4.ne p q hp hq
theorem clsB_no {cs : List Cl} {i : Nat} (h : clsB cs i = false) : ((clK cs i).kind = 4 → (clK cs i).to ≠ -1) ∧ ((clK cs i).kind = 3 → ∀ j, j < i → (clK cs j).kind = 3 → (clK cs j).arg ≠ (clK cs i).arg) := by
  unfold clsB at h
  rw [Bool.or_eq_false_iff] at h
  refine ⟨fun e1 e2 => ?_, fun e1 j hj e2 e3 => ?_⟩
  · have := h.1; simp [e1, e2] at this
  · have h2 := h.2
    rw [decide_eq_true e1, Bool.true_and, List.any_eq_false] at h2
    have := h2 j (List.mem_range.2 hj)
    simp [e2, e3] at this
theorem quOk_of {cs : List Cl} (h : QuAll cs) (hno : ∀ i, i < cs.length → clsB cs i = false) : QuOk cs :=
  ⟨h.few, h.kind, h.put, fun k hk e => ⟨(clsB_no (hno k hk)).1 e, h.got k hk e ((clsB_no (hno k hk)).1 e)⟩, h.to, h.frm, h.ne, fun i j hj hi e1 e2 => (clsB_no (hno i hi)).2 e1 j hj e2⟩
theorem onceR_err {l : List Ev} (h : (callsR [2] l).2.2 ≠ 0) : onceR l = ([], (callsR [2] l).2.2) := by unfold onceR; rw [if_pos h]
theorem onceR_bad {l : List Ev} (h : (callsR [2] l).2.2 = 0) {i : Nat} (hi : i < (callsR [2] l).1.length) (hb : clsB (callsR [2] l).1 i = true) : onceR l = ([], 6) := by
  unfold onceR; rw [if_neg (by simp [h]), if_pos (List.any_eq_true.2 ⟨i, List.mem_range.2 hi, hb⟩)]
theorem onceR_ok {l : List Ev} (h : (callsR [2] l).2.2 = 0) (hno : ∀ i, i < (callsR [2] l).1.length → clsB (callsR [2] l).1 i = false) : onceR l = ((callsR [2] l).1, 0) := by
  unfold onceR
  rw [if_neg (by simp [h]), if_neg]
  rw [Bool.not_eq_true, List.any_eq_false]
  intro i hi
  rw [hno i (List.mem_range.1 hi)]; decide
/-! values -/
@[irreducible] def keyQ (cs : List Cl) : List Nat := (List.range 1001).filter fun v : Nat => decide (0 ≤ putBy cs v)
def valQ (cs : List Cl) (k : Nat) (v : Nat) : Rvl := ⟨(v : Int), putBy cs v, gotK cs v k⟩
def valL (cs : List Cl) (k : Nat) : List Rvl := (keyQ cs).map (valQ cs k)
def enqL (cs : List Cl) (k : Nat) : List Rvl := ((List.range k).filter fun i => decide ((clK cs i).kind = 3)).map fun i : Nat => ⟨(clK cs i).arg, (i : Int), -1⟩
theorem enqL_succ (cs : List Cl) (k : Nat) : enqL cs (k + 1) = if (clK cs k).kind = 3 then enqL cs k ++ [⟨(clK cs k).arg, (k : Int), -1⟩] else enqL cs k := by
  unfold enqL
  rw [List.range_succ, List.filter_append, List.map_append]
  split <;> rename_i h <;> simp [h]
theorem enqL_len (cs : List Cl) (k : Nat) : (enqL cs k).length ≤ k := by
  unfold enqL
  rw [List.length_map]
  exact Nat.le_trans (List.length_filter_le _ _) (by simp)
theorem keyQ_mem {cs : List Cl} {v : Nat} : v ∈ keyQ cs ↔ v < 1001 ∧ 0 ≤ putBy cs v := by
  unfold keyQ
  rw [List.mem_filter, List.mem_range]; simp
theorem keyQ_sorted (cs : List Cl) : (keyQ cs).Pairwise (· < ·) := by unfold keyQ; exact List.Pairwise.filter _ List.pairwise_lt_range
theorem putBy_of {cs : List Cl} {i : Nat} (hok : QuOk cs) (hi : i < cs.length) (h3 : (clK cs i).kind = 3) : putBy cs (clK cs i).arg = (i : Int) := by
  refine ixN_at hi (fun j hj => ?_) (by simp [isPut, h3])
  unfold isPut
  by_cases e : (clK cs j).kind = 3
  · have := hok.one i j hj hi h3 e
    simp [this]
  · simp [e]
theorem putBy_at {cs : List Cl} {v : Int} (h : 0 ≤ putBy cs v) : ∃ k : Nat, putBy cs v = (k : Int) ∧ k < cs.length ∧ (clK cs k).kind = 3 ∧ (clK cs k).arg = v := by
  rcases ixN_cases cs.length (isPut cs v) with ⟨h1, _⟩ | ⟨k, h1, h2, h3, _⟩
  · unfold putBy at h; omega
  · simp only [isPut, Bool.and_eq_true, decide_eq_true_eq] at h3
    exact ⟨k, h2, h1, h3.1, h3.2⟩
theorem gotK_at {cs : List Cl} {v : Int} {n : Nat} (h : 0 ≤ gotK cs v n) : ∃ k : Nat, gotK cs v n = (k : Int) ∧ k < n ∧ (clK cs k).kind = 4 ∧ (clK cs k).res = v := by
  rcases ixN_cases n (isGot cs v) with ⟨h1, _⟩ | ⟨k, h1, h2, h3, _⟩
  · unfold gotK at h; omega
  · simp only [isGot, Bool.and_eq_true, decide_eq_true_eq] at h3
    exact ⟨k, h2, h1, h3.1, h3.2⟩
theorem putBy_key {cs : List Cl} {v : Int} (hok : QuOk cs) (h : 0 ≤ putBy cs v) : ∃ n : Nat, v = (n : Int) ∧ 1 ≤ n ∧ n < 1001 := by
  obtain ⟨k, _, h2, h3, h4⟩ := putBy_at h
  have := hok.put k h2 h3
  exact ⟨v.toNat, by omega, by omega, by omega⟩
theorem enqL_perm {cs : List Cl} (hok : QuOk cs) : (enqL cs cs.length).Perm (valL cs 0) := by
  refine (List.perm_ext_iff_of_nodup ?_ ?_).2 fun r => ?_
  · unfold enqL
    refine List.Pairwise.map _ (fun a b hab he => hab ?_) (List.Pairwise.filter _ (List.nodup_range (n := cs.length)))
    have : (a : Int) = (b : Int) := congrArg Rvl.enq he
    omega
  · unfold valL
    rw [List.Nodup, List.pairwise_map]
    refine (keyQ_sorted cs).imp fun {a b} hab he => ?_
    have : (a : Int) = (b : Int) := congrArg Rvl.n he
    omega
  · unfold enqL valL
    rw [List.mem_map, List.mem_map]
    constructor
    · rintro ⟨i, hi, rfl⟩
      rw [List.mem_filter, List.mem_range] at hi
      have h3 := of_decide_eq_true hi.2
      have hp := putBy_of hok hi.1 h3
      have hr := hok.put i hi.1 h3
      obtain ⟨v, hv⟩ : ∃ v : Nat, (clK cs i).arg = (v : Int) := ⟨(clK cs i).arg.toNat, by omega⟩
      rw [hv] at hp hr
      refine ⟨v, keyQ_mem.2 ⟨by omega, by omega⟩, ?_⟩
      unfold valQ
      rw [hp, hv]; rfl
    · rintro ⟨v, hv, rfl⟩
      obtain ⟨_, hv⟩ := keyQ_mem.1 hv
      obtain ⟨k, h1, h2, h3, h4⟩ := putBy_at hv
      refine ⟨k, List.mem_filter.2 ⟨List.mem_range.2 h2, by simpa using h3⟩, ?_⟩
      unfold valQ
      rw [h1, h4]; rfl
theorem enqL_sorted {cs : List Cl} (hok : QuOk cs) {S : List Rvl} (hp : S.Perm (enqL cs cs.length)) (hs : S.Pairwise fun a b => a.n ≤ b.n) : S = valL cs 0 := by
  refine sort_eq (key := Rvl.n) (hp.trans (enqL_perm hok)) hs ?_
  unfold valL
  rw [List.pairwise_map]
  exact (keyQ_sorted cs).imp fun {a b} hab => by show (a : Int) < (b : Int); omega
theorem keyQ_len {cs : List Cl} (hok : QuOk cs) : (keyQ cs).length ≤ cs.length := by
  have h1 := (enqL_perm hok).length_eq
  have h2 := enqL_len cs cs.length
  rw [show (valL cs 0).length = (keyQ cs).length by simp [valL]] at h1
  omega
theorem valL_len (cs : List Cl) (k : Nat) : (valL cs k).length = (keyQ cs).length := by simp [valL]
theorem valL_get {cs : List Cl} {k q : Nat} (hq : q < (valL cs k).length) : (valL cs k)[q] = valQ cs k ((keyQ cs)[q]'(by rw [← valL_len cs k]; exact hq)) := by simp [valL]
/-! which value is looked up -/
theorem valL_find {cs : List Cl} (hok : QuOk cs) (k : Nat) (n : Int) :
    (putBy cs n < 0 ∧ ∀ r ∈ valL cs k, r.n ≠ n) ∨ (0 ≤ putBy cs n ∧ ∃ q, ∃ h : q < (keyQ cs).length, ((keyQ cs)[q] : Int) = n ∧ (∀ j (hj : j < q), ((keyQ cs)[j] : Int) ≠ n) ∧ ∀ m, m < (keyQ cs).length → ((keyQ cs).getD m 0 : Int) = n → m = q) := by
  by_cases h : putBy cs n < 0
  · left
    refine ⟨h, fun r hr e => ?_⟩
    unfold valL at hr
    obtain ⟨v, hv, rfl⟩ := List.mem_map.1 hr
    have := (keyQ_mem.1 hv).2
    have e : (v : Int) = n := e
    rw [e] at this; omega
  · right
    obtain ⟨m, rfl, h1, h2⟩ := putBy_key hok (Int.not_lt.1 h)
    obtain ⟨q, hq, he⟩ := List.mem_iff_getElem.1 (keyQ_mem.2 ⟨h2, Int.not_lt.1 h⟩)
    have hs := List.pairwise_iff_getElem.1 (keyQ_sorted cs)
    refine ⟨by omega, q, hq, by rw [he], fun j hj e => ?_, fun m hm e => ?_⟩
    · have := hs j q (by omega) hq hj
      omega
    · have hg : (keyQ cs).getD m 0 = (keyQ cs)[m] := by simp [hm]
      rw [hg] at e
      rcases Nat.lt_trichotomy m q with c | c | c
      · have := hs m q hm hq c; omega
      · exact c
      · have := hs q m hq hm c; omega
theorem valL_same {cs : List Cl} (k : Nat) (h : ∀ v ∈ keyQ cs, isGot cs (v : Int) k = false ∨ 0 ≤ gotK cs v k) : valL cs (k + 1) = valL cs k := by
  unfold valL
  refine List.map_congr_left fun v hv => ?_
  unfold valQ
  congr 1
  unfold gotK
  rw [ixN_succ]
  have := ixN_bd k (isGot cs v)
  rcases h v hv with e | e
  · split
    · rfl
    · rw [e, if_neg (by decide)]; omega
  · unfold gotK at e; rw [if_pos e]
theorem valL_set {cs : List Cl} {k q : Nat} (hq : q < (keyQ cs).length) (h4 : (clK cs k).kind = 4) (hr : (clK cs k).res = ((keyQ cs)[q] : Nat)) (hn : gotK cs ((keyQ cs)[q] : Nat) k < 0) : valL cs (k + 1) = (valL cs k).set q ⟨((keyQ cs)[q] : Nat), putBy cs ((keyQ cs)[q] : Nat), (k : Int)⟩ := by
  have hs := List.pairwise_iff_getElem.1 (keyQ_sorted cs)
  apply List.ext_getElem
  · rw [List.length_set, valL_len, valL_len]
  intro m h1 h2
  rw [valL_len] at h1
  rw [valL_get, List.getElem_set]
  split
  · rename_i e; subst e
    unfold valQ
    congr 1
    unfold gotK at hn ⊢
    rw [ixN_succ, if_neg (by omega), if_pos (by simp [isGot, h4, hr])]
  · rename_i e
    rw [valL_get]
    unfold valQ
    congr 1
    unfold gotK
    rw [ixN_succ]
    have := ixN_bd k (isGot cs ((keyQ cs)[m] : Nat))
    split
    · rfl
    · rw [if_neg]
      · omega
      · have : (keyQ cs)[q] ≠ (keyQ cs)[m] := fun e2 => by
          rcases Nat.lt_or_gt_of_ne e with c | c
          · have := hs q m hq h1 c; omega
          · have := hs m q h1 hq c; omega
        simp [isGot, hr]; omega
/-! when a value stays -/
def stayE (cs : List Cl) (v : Int) : Spn := ⟨(clK cs (putBy cs v).toNat).to, if 0 ≤ gotBy cs v then (clK cs (gotBy cs v).toNat).from_ - 1 else 199⟩
def stayB (cs : List Cl) (v : Int) : Bool := decide (0 ≤ putBy cs v) && (decide ((stayE cs v).frm ≠ -1) && decide ((stayE cs v).frm ≤ (stayE cs v).til))
def stayO (cs : List Cl) (v : Int) : Option Spn := if stayB cs v = true then some (stayE cs v) else none
def stayL (cs : List Cl) (n : Nat) : List Spn := (List.range n).filterMap fun v => stayO cs (v : Nat)
theorem stayL_succ (cs : List Cl) (n : Nat) : stayL cs (n + 1) = if stayB cs n = true then stayL cs n ++ [stayE cs n] else stayL cs n := by
  unfold stayL
  rw [List.range_succ, List.filterMap_append]
  unfold stayO
  split <;> rename_i h <;> simp [h]
theorem stayL_len (cs : List Cl) (n : Nat) : (stayL cs n).length ≤ n := by
  unfold stayL
  exact Nat.le_trans (List.length_filterMap_le _ _) (by simp)
/-- the same, by the list of values -/
def stayR (cs : List Cl) (r : Rvl) : Option Spn :=
  if (clK cs r.enq.toNat).to ≠ -1 ∧ (clK cs r.enq.toNat).to ≤ (if 0 ≤ r.deq then (clK cs r.deq.toNat).from_ - 1 else 199) then some ⟨(clK cs r.enq.toNat).to, if 0 ≤ r.deq then (clK cs r.deq.toNat).from_ - 1 else 199⟩ else none
def stayC (cs : List Cl) (k : Nat) : List Spn := ((valL cs cs.length).take k).filterMap (stayR cs)
theorem stayC_succ {cs : List Cl} {k : Nat} (hk : k < (valL cs cs.length).length) : stayC cs (k + 1) = stayC cs k ++ (stayR cs (valL cs cs.length)[k]).toList := by
  unfold stayC
  rw [List.take_succ_eq_append_getElem hk, List.filterMap_append]
  cases h : stayR cs (valL cs cs.length)[k] <;> simp [h]
theorem stayC_len (cs : List Cl) (k : Nat) : (stayC cs k).length ≤ k := by
  unfold stayC
  refine Nat.le_trans (List.length_filterMap_le _ _) ?_
  rw [List.length_take]; omega
theorem stayC_all (cs : List Cl) : stayC cs (valL cs cs.length).length = stayL cs 1001 := by
  unfold stayC
  rw [List.take_length]
  unfold valL keyQ
  rw [filt_map]
  unfold stayL
  congr 1
  funext v
  unfold stayO stayB stayR valQ stayE
  dsimp only
  change (if decide (0 ≤ putBy cs v) = true then if (clK cs (putBy cs v).toNat).to ≠ -1 ∧ (clK cs (putBy cs v).toNat).to ≤ (if 0 ≤ gotBy cs v then (clK cs (gotBy cs v).toNat).from_ - 1 else 199) then _ else _ else _) = _
  generalize ha : (if 0 ≤ gotBy cs v then (clK cs (gotBy cs v).toNat).from_ - 1 else 199) = a
  unfold gotBy at ha
  by_cases h1 : 0 ≤ putBy cs v
  · by_cases h2 : (clK cs (putBy cs v).toNat).to = -1
    · simp [h2]
    · by_cases h3 : (clK cs (putBy cs v).toNat).to ≤ a
      · simp [h1, h2, h3, ha]
      · simp [h2, h3]
  · simp [h1]
/-! the first thing that can't be -/
def straB (cs : List Cl) (k : Nat) : Bool := decide ((clK cs k).kind = 4) && (decide (0 < (clK cs k).res) && decide (putBy cs (clK cs k).res < 0))
def tweB (cs : List Cl) (k : Nat) : Bool := decide ((clK cs k).kind = 4) && (decide (0 < (clK cs k).res) && decide (gotBy cs (clK cs k).res < (k : Int)))
def earB (cs : List Cl) (k : Nat) : Bool := decide ((clK cs k).kind = 4) && (decide (0 < (clK cs k).res) && decide ((clK cs k).to < (clK cs (putBy cs (clK cs k).res).toNat).from_))
def fifB (cs : List Cl) (a b : Nat) : Bool :=
  (decide (0 ≤ putBy cs a) && decide (0 ≤ putBy cs b)) && ((decide ((clK cs (putBy cs a).toNat).to ≠ -1) && decide ((clK cs (putBy cs a).toNat).to ≤ (clK cs (putBy cs b).toNat).from_)) && (decide (0 ≤ gotBy cs b) && (decide (gotBy cs a < 0) || decide ((clK cs (gotBy cs b).toNat).to < (clK cs (gotBy cs a).toNat).from_))))
def inB (s : Spn) (t : Int) : Bool := decide (s.frm ≤ t) && decide (t ≤ s.til)
def fullB (cs : List Cl) (t : Int) : Bool := (stayL cs 1001).any fun s => inB s t
def alwB (cs : List Cl) (k : Nat) : Bool := (List.range ((clK cs k).to - (clK cs k).from_).toNat).all fun d => fullB cs ((clK cs k).from_ + d)
def alwP (cs : List Cl) (k d : Nat) : Bool := (List.range d).all fun j => fullB cs ((clK cs k).from_ + (j : Nat))
theorem alwP_succ (cs : List Cl) (k d : Nat) : alwP cs k (d + 1) = (alwP cs k d && fullB cs ((clK cs k).from_ + (d : Nat))) := by
  unfold alwP
  rw [List.range_succ, List.all_append]; simp
def empB (cs : List Cl) (k : Nat) : Bool := (decide ((clK cs k).kind = 4) && decide ((clK cs k).res = -1)) && alwB cs k
def straV (cs : List Cl) : Bd := match firstN cs.length (straB cs) with | some k => ⟨1, k, 0⟩ | none => ⟨0, 0, 0⟩
def tweV (cs : List Cl) : Bd := match firstN cs.length (tweB cs) with | some k => ⟨2, k, gotBy cs (clK cs k).res⟩ | none => ⟨0, 0, 0⟩
def earV (cs : List Cl) : Bd := match firstN cs.length (earB cs) with | some k => ⟨3, k, putBy cs (clK cs k).res⟩ | none => ⟨0, 0, 0⟩
def fifV (cs : List Cl) : Bd := match firstP 1001 (fun _ => 1001) (fifB cs) with | some (a, b) => ⟨6, a, b⟩ | none => ⟨0, 0, 0⟩
def empV (cs : List Cl) : Bd := match firstN cs.length (empB cs) with | some k => ⟨7, k, 0⟩ | none => ⟨0, 0, 0⟩
def rowsV (cs : List Cl) : Bd :=
  if (straV cs).kind ≠ 0 then straV cs else if (tweV cs).kind ≠ 0 then tweV cs else if (earV cs).kind ≠ 0 then earV cs else if (fifV cs).kind ≠ 0 then fifV cs else empV cs
/-! the pairs of values, by the list of values -/
theorem pair_first (P : Nat → Nat → Bool) (n : Nat) : pairL (List.range n) P = firstP n (fun _ => n) P := by
  have e : (fun a => (List.range n).any (P a)) = fun i => (firstN n (P i)).isSome := by
    funext a
    unfold firstN
    rw [List.isSome_find?]
  unfold pairL firstP firstN
  unfold firstN at e
  rw [e]
  dsimp only
  cases (List.range n).find? (fun i => ((List.range n).find? (P i)).isSome) <;> rfl
theorem fifB_key {cs : List Cl} (a b : Nat) (h : fifB cs a b = true) : decide (0 ≤ putBy cs a) = true ∧ decide (0 ≤ putBy cs b) = true := by
  unfold fifB at h
  rw [Bool.and_eq_true, Bool.and_eq_true] at h
  exact h.1
theorem fif_keys (cs : List Cl) : firstP 1001 (fun _ => 1001) (fifB cs) = pairL (keyQ cs) (fifB cs) := by
  rw [← pair_first]
  unfold keyQ
  exact (pairL_filt (q := fun v : Nat => decide (0 ≤ putBy cs v)) (fun a b h => fifB_key a b h)).symm
end Go.Proofs.Ytbhjljnbjomnhaa

namespace Go.Proofs.Ytbhjljnbjomnhaa

def idxF {α : Type} (p : α → Bool) (l : List α) : Int := if l.any p = true then (l.findIdx p : Int) else -1
theorem any_take_not {α : Type} {p : α → Bool} {l : List α} {k : Nat} (hk : k < l.length) (h1 : (l.take k).any p = false) (h2 : p l[k] = false) : (l.take (k + 1)).any p = false := by
  rw [List.take_succ_eq_append_getElem hk, List.any_append, h1]; simp [h2]
theorem idxF_at {α : Type} {p : α → Bool} {l : List α} {k : Nat} (hk : k < l.length) (h1 : (l.take k).any p = false) (h2 : p l[k] = true) : idxF p l = (k : Int) := by
  have hany : l.any p = true := List.any_eq_true.2 ⟨_, List.getElem_mem hk, h2⟩
  unfold idxF
  rw [if_pos hany]
  congr 1
  rw [List.findIdx_eq hk]
  refine ⟨h2, fun j hj => ?_⟩
  rw [List.any_eq_false] at h1
  have hm : l[j] ∈ l.take k := by
    rw [List.mem_take_iff_getElem]
    exact ⟨j, by omega, rfl⟩
  exact Bool.eq_false_iff.2 (h1 _ hm)
theorem idxF_no {α : Type} {p : α → Bool} {l : List α} (h : l.any p = false) : idxF p l = -1 := by
  unfold idxF; rw [if_neg (by rw [h]; decide)]
theorem idxF_any {α : Type} (p : α → Bool) (l : List α) : decide (0 ≤ idxF p l) = l.any p := by
  unfold idxF
  split
  · rename_i h; rw [h]; simp
  · rename_i h; rw [Bool.eq_false_iff.2 h]; decide
theorem idxF_lt {α : Type} {p : α → Bool} {l : List α} : -1 ≤ idxF p l ∧ idxF p l < l.length := by
  unfold idxF
  split
  · rename_i h
    have := List.findIdx_lt_length.2 (List.any_eq_true.1 h)
    omega
  · omega
theorem idxF_neg {α : Type} {p : α → Bool} {l : List α} : idxF p l < 0 ↔ l.any p = false := by
  rw [← idxF_any, decide_eq_false_iff_not]; omega
end Go.Proofs.Ytbhjljnbjomnhaa

namespace Go.Proofs.Ytbhjljnbjomnhaa
open Go.RowKit

section
variable (fn : Nat) [IsFn Try.prog fn] (p : Rvl → Bool) (cvs : List Value) (A : Option Addr) (c : Nat) (l : List Rvl) (w : World) (hA : RdE Rvl.enc 3 w A l) (hl : l.length ≤ 9223372036854775807)
variable (hp : ∀ s ∈ l, ∀ w', Below w.heap.size w w' → Calls Try.prog fn (.agg (Rvl.enc s).toArray :: cvs).toArray w' fun e w2 => e = .returned (.bool (p s)) ∧ Below w'.heap.size w' w2)
include hA hl hp
set_option maxRecDepth 100000 in
theorem indexRvl_any : Calls Try.prog 163 #[.slice A l.length c, .func (.func fn) #[] cvs.toArray] w fun e w' => e = .returned (.int .i64 (idxF p l)) ∧ Below w.heap.size w w' := by
  refine calls_T (S := []) [] Try.func163 rfl Try.ntmps163 (by simp) (Mem.nil _) ?_
  repeat' (first | (refine GO ?_) | (refine GOE ?_; (first | (rintro _ _ ⟨rfl, rfl⟩) | (rintro _ _ ⟨g, rfl, rfl⟩) | (rintro _ _ ⟨A', c', rfl, rfl⟩))) | ((refine GO2 ?_ ?_) <;> intro h <;> (try (repeat (first | with_reducible (replace h := of_decide_eq_true h) | with_reducible (replace h := of_decide_eq_false h) | with_reducible (replace h := bnt h) | with_reducible (replace h := bnf h) | with_reducible (replace h := Int.not_lt.mp h) | with_reducible (replace h := Int.not_le.mp h) | with_reducible (replace h := band_dec h) | with_reducible (replace h := band_decF h) | with_reducible (replace h := bor_dec h) | with_reducible (replace h := bor_decF h)))) <;> (try (exfalso; first | contradiction | omega))) | fail)
  refine T_loop (X := Nat) (fun k => [(8, .int .i64 (k : Nat)), (7, .int .i64 (l.length : Nat)), (1, .func (.func fn) #[] cvs.toArray), (0, .slice A l.length c)]) (fun _ => [])
    (fun k => k ≤ l.length ∧ (l.take k).any p = false) (fun k => l.length - k) 0 ⟨by omega, by simp⟩ (by (repeat (first | exact SubE.nil _ | refine SubE.cons rfl ?_))) (by exact SUBS) ?_
  rintro k ⟨hk, hno⟩
  by_cases hkl : k < l.length
  · obtain ⟨b, o, rfl, _⟩ := RdE.open hA (by omega)
    have hb := fun w' hb => hp l[k] (List.getElem_mem _) w' hb
    generalize hz : p l[k] = z at hb
    repeat' (first | (refine GO ?_) | (refine GOE ?_; (first | (rintro _ _ ⟨rfl, rfl⟩) | (rintro _ _ ⟨g, rfl, rfl⟩) | (rintro _ _ ⟨A', c', rfl, rfl⟩))) | ((refine GO2 ?_ ?_) <;> intro h <;> (try (repeat (first | with_reducible (replace h := of_decide_eq_true h) | with_reducible (replace h := of_decide_eq_false h) | with_reducible (replace h := bnt h) | with_reducible (replace h := bnf h) | with_reducible (replace h := Int.not_lt.mp h) | with_reducible (replace h := Int.not_le.mp h) | with_reducible (replace h := band_dec h) | with_reducible (replace h := band_decF h) | with_reducible (replace h := bor_dec h) | with_reducible (replace h := bor_decF h)))) <;> (try (exfalso; first | contradiction | omega))) | ((with_reducible (first | apply TD_e2z | apply TD_e3z | apply TL_e | apply TD_e2 | apply TD_e3)); ((with_reducible apply ES_callFV (f := fn) (us := []) (cs := cvs) (v := .bool z)); exact rfl; exact rfl; (intro w' hw; exact hb w' (hw.below0 rfl)); exact rfl); (first | exact rfl | exact ⟨rfl, rfl, rfl⟩); (rintro _ _ ⟨rfl, rfl⟩); (try refine ⟨SUB, ?_⟩)) | fail)
    · (refine At_ret Try.results163 rfl (fun w' hw => ?_))
      exact ⟨by rw [idxF_at hkl hno (by rw [hz]; assumption)]; rfl, hw.below0 rfl⟩
    · refine At_rounds (k + 1) ⟨hkl, any_take_not hkl hno (by rw [hz]; assumption)⟩ (by omega) (by (repeat (first | exact SubE.nil _ | refine SubE.cons rfl ?_))) (by exact SUBS)
  · obtain rfl : k = l.length := by omega
    rw [List.take_length] at hno
    repeat' (first | (refine GO ?_) | (refine GOE ?_; (first | (rintro _ _ ⟨rfl, rfl⟩) | (rintro _ _ ⟨g, rfl, rfl⟩) | (rintro _ _ ⟨A', c', rfl, rfl⟩))) | ((refine GO2 ?_ ?_) <;> intro h <;> (try (repeat (first | with_reducible (replace h := of_decide_eq_true h) | with_reducible (replace h := of_decide_eq_false h) | with_reducible (replace h := bnt h) | with_reducible (replace h := bnf h) | with_reducible (replace h := Int.not_lt.mp h) | with_reducible (replace h := Int.not_le.mp h) | with_reducible (replace h := band_dec h) | with_reducible (replace h := band_decF h) | with_reducible (replace h := bor_dec h) | with_reducible (replace h := bor_decF h)))) <;> (try (exfalso; first | contradiction | omega))) | fail)
    (refine At_ret Try.results163 rfl (fun w' hw => ?_))
    exact ⟨by rw [idxF_no hno]; rfl, hw.below0 rfl⟩
end
end Go.Proofs.Ytbhjljnbjomnhaa
