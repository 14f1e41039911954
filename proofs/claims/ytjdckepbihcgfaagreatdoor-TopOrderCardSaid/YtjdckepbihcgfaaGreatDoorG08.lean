/- Lemmas for the walks (Cto, Bd, Obj1, Kinds, Obj2). No condition. -/
import Derived.Test.YtjdckepbihcgfaaGreatDoorG07
import Derived.Test.YtjdckepbihcgfaaGreatDoorG05
import Derived.Test.YtjdckepbihcgfaaGreatDoorG01
import Derived.Test.YtjdckepbihcgfaaGreatDoorG06
import Derived.Test.YtjdckepbihcgfaaGreatDoorG04
set_option linter.unusedSimpArgs false
set_option linter.unusedVariables false
set_option linter.unusedSectionVars false
set_option linter.unnecessarySimpa false
namespace Go.Proofs.YtjdckepbihcgfaaGreatDoor
open Go.RowKit

/-- what is so of the times of the calls that a reading keeps -/
structure ClsTo (i : Int) (cs : List Cl) : Prop where
  to : ∀ q (h : q < cs.length), cs[q].to = -1 ∨ (cs[q].from_ < cs[q].to ∧ cs[q].to < i)
  one : ∀ p q (h1 : p < q) (h : q < cs.length), cs[p].who = cs[q].who → cs[p].to ≠ -1 ∧ cs[p].to < cs[q].from_
theorem clsTo_step {ts : List Int} {i : Int} {cs : List Cl} (x : Ev) (hi : 0 ≤ i) (hp : ∀ q (h : q < cs.length), cs[q].from_ < i) (h : ClsTo i cs) : ClsTo (i + 1) (evR ts cs i x).2 := by
  have keep : ClsTo (i + 1) cs := ⟨fun q hq => by rcases h.to q hq with h1 | h1; exact .inl h1; exact .inr ⟨h1.1, by omega⟩, h.one⟩
  unfold evR
  by_cases hf : formBad ts x = true
  · rw [if_pos hf]; exact keep
  · rw [if_neg hf]
    by_cases hk : x.kind = 0
    · rw [if_pos hk]
      split
      · exact keep
      · split
        · rename_i hz hc
          have hlt := openTo_lt cs x.who cs.length
          obtain ⟨m, hm, hml, hmw, hmt⟩ := openTo_at (cs := cs) (who := x.who) cs.length (by omega)
          have hmt' : (openTo cs x.who cs.length).toNat = m := by omega
          rw [hmt']
          have hd : cs.getD m default = cs[m] := by simp [hml]
          rw [hd] at hmw hmt ⊢
          dsimp only
          refine ⟨fun q hq => ?_, fun p q hpq hq => ?_⟩
          · have hq' : q < cs.length := by simpa using hq
            rw [List.getElem_set]
            split
            · exact .inr ⟨hp m hml, by dsimp only; omega⟩
            · exact keep.to q hq'
          · have hq' : q < cs.length := by simpa using hq
            have ho := h.one p q hpq hq'
            rw [List.getElem_set, List.getElem_set]
            split <;> split
            · omega
            · rename_i e1 e2
              subst e1
              intro e
              exact absurd hmt (ho e).1
            · rename_i e1 e2
              subst e2
              exact ho
            · exact ho
        · exact keep
    · rw [if_neg hk]
      split
      · exact keep
      · split
        · exact keep
        · rename_i hop
          dsimp only
          refine ⟨fun q hq => ?_, fun p q hpq hq => ?_⟩
          · by_cases e : q < cs.length
            · rw [List.getElem_append_left e]; exact keep.to q e
            · rw [List.getElem_append_right (by omega)]
              simp
          · simp only [List.length_append, List.length_cons, List.length_nil] at hq
            by_cases e : q < cs.length
            · rw [List.getElem_append_left e, List.getElem_append_left (by omega)]; exact h.one p q hpq e
            · have hpl : p < cs.length := by omega
              rw [List.getElem_append_left hpl, List.getElem_append_right (by omega)]
              simp only [List.getElem_singleton]
              intro ew
              have hd : cs.getD p default = cs[p] := by simp [hpl]
              have hto : cs[p].to ≠ -1 := fun et => by
                have h1 := openTo_some (cs := cs) (who := x.who) (j := p) cs.length hpl (by rw [hd]; exact ⟨ew, et⟩)
                have := openTo_lt cs x.who cs.length
                omega
              refine ⟨hto, ?_⟩
              rcases h.to p hpl with h1 | h1
              · exact absurd h1 hto
              · exact h1.2
theorem clsTo_st (ts : List Int) (l : List Ev) : ∀ k : Nat, ClsTo (k : Int) (stR ts l k)
  | 0 => ⟨fun q h => by simp [stR] at h, fun p q _ h => by simp [stR] at h⟩
  | k + 1 => by
    have := clsTo_step (ts := ts) (i := k) (l.getD k default) (by omega) (fun q hq => ((clsOk_st ts l k).each q hq).place.2) (clsTo_st ts l k)
    rw [stR]
    exact this
/-- what else is so of them -/
structure ClsMore (i : Int) (cs : List Cl) : Prop where
  lt : ∀ q (h : q < cs.length), cs[q].to < i ∧ cs[q].from_ < i ∧ 0 ≤ cs[q].from_
  ne : ∀ p q (h1 : p < cs.length) (h2 : q < cs.length), cs[p].to ≠ cs[q].from_
  res : ∀ q (h : q < cs.length), cs[q].to = -1 → cs[q].res = 0
  ans : ∀ q (h : q < cs.length), cs[q].to ≠ -1 → ansB cs[q].kind cs[q].res = true
theorem clsMore_step {ts : List Int} {i : Int} {cs : List Cl} (x : Ev) (hi : 0 ≤ i) (h : ClsMore i cs) : ClsMore (i + 1) (evR ts cs i x).2 := by
  have keep : ClsMore (i + 1) cs := ⟨fun q hq => by have := h.lt q hq; omega, h.ne, h.res, h.ans⟩
  unfold evR
  by_cases hf : formBad ts x = true
  · rw [if_pos hf]; exact keep
  · rw [if_neg hf]
    by_cases hk : x.kind = 0
    · rw [if_pos hk]
      split
      · exact keep
      · split
        · rename_i hz hc
          have hlt := openTo_lt cs x.who cs.length
          obtain ⟨m, hm, hml, hmw, hmt⟩ := openTo_at (cs := cs) (who := x.who) cs.length (by omega)
          have hmt' : (openTo cs x.who cs.length).toNat = m := by omega
          rw [hmt'] at hc ⊢
          have hd : cs.getD m default = cs[m] := by simp [hml]
          rw [hd] at hmw hmt hc ⊢
          dsimp only
          have hfr : ∀ q (hq : q < (cs.set m { cs[m] with res := x.value, to := i }).length), ((cs.set m { cs[m] with res := x.value, to := i })[q]).from_ = (cs[q]'(by simpa using hq)).from_ := fun q hq => by
            rw [List.getElem_set]
            split
            · rename_i e; subst e; rfl
            · rfl
          refine ⟨fun q hq => ?_, fun p q hp hq => ?_, fun q hq => ?_, fun q hq => ?_⟩
          · have hq' : q < cs.length := by simpa using hq
            have := h.lt q hq'
            rw [hfr, List.getElem_set]
            split
            · dsimp only; omega
            · omega
          · have hp' : p < cs.length := by simpa using hp
            have hq' : q < cs.length := by simpa using hq
            have h1 := h.lt q hq'
            have h2 := h.ne p q hp' hq'
            rw [hfr, List.getElem_set]
            split
            · dsimp only; omega
            · exact h2
          · have hq' : q < cs.length := by simpa using hq
            rw [List.getElem_set]
            split
            · dsimp only; intro e; omega
            · exact h.res q hq'
          · have hq' : q < cs.length := by simpa using hq
            rw [List.getElem_set]
            split
            · dsimp only; intro _; exact hc.2
            · exact h.ans q hq'
        · exact keep
    · rw [if_neg hk]
      split
      · exact keep
      · split
        · exact keep
        · rename_i hop
          dsimp only
          have hlast : ∀ q (hq : q < (cs ++ [(⟨x.who, x.thing, x.kind, x.value, 0, i, -1⟩ : Cl)]).length), (∃ hq' : q < cs.length, (cs ++ [(⟨x.who, x.thing, x.kind, x.value, 0, i, -1⟩ : Cl)])[q] = cs[q]) ∨ (cs ++ [(⟨x.who, x.thing, x.kind, x.value, 0, i, -1⟩ : Cl)])[q] = ⟨x.who, x.thing, x.kind, x.value, 0, i, -1⟩ := fun q hq => by
            by_cases e : q < cs.length
            · exact .inl ⟨e, List.getElem_append_left e⟩
            · right
              rw [List.getElem_append_right (by omega)]
              simp
          refine ⟨fun q hq => ?_, fun p q hp hq => ?_, fun q hq => ?_, fun q hq => ?_⟩
          · rcases hlast q hq with ⟨e, e1⟩ | e1
            · rw [e1]; have := h.lt q e; omega
            · rw [e1]; dsimp only; omega
          · rcases hlast q hq with ⟨e, e1⟩ | e1 <;> rcases hlast p hp with ⟨g, g1⟩ | g1
            · rw [e1, g1]; exact h.ne p q g e
            · rw [e1, g1]; have := h.lt q e; dsimp only; omega
            · rw [e1, g1]; have := h.lt p g; dsimp only; omega
            · rw [e1, g1]; dsimp only; omega
          · rcases hlast q hq with ⟨e, e1⟩ | e1
            · rw [e1]; exact h.res q e
            · rw [e1]; exact fun _ => rfl
          · rcases hlast q hq with ⟨e, e1⟩ | e1
            · rw [e1]; exact h.ans q e
            · rw [e1]; dsimp only; intro e2; exact absurd rfl e2
theorem clsMore_st (ts : List Int) (l : List Ev) : ∀ k : Nat, ClsMore (k : Int) (stR ts l k)
  | 0 => ⟨fun q h => by simp [stR] at h, fun p q h => by simp [stR] at h, fun q h => by simp [stR] at h, fun q h => by simp [stR] at h⟩
  | k + 1 => by
    have := clsMore_step (ts := ts) (i := k) (l.getD k default) (by omega) (clsMore_st ts l k)
    rw [stR]
    exact this
/-- all that is so of the calls of a reading -/
theorem callsR_all {ts : List Int} {l : List Ev} (h : (callsR ts l).2.2 = 0) : l.length ≤ 200 ∧ ClsOk ts 200 (callsR ts l).1 ∧ ClsTo 200 (callsR ts l).1 ∧ ClsMore 200 (callsR ts l).1 := by
  obtain ⟨h1, h2, _, h4⟩ := callsR_inv h
  have hc := clsOk_st ts l l.length
  have ht := clsTo_st ts l l.length
  have hm := clsMore_st ts l l.length
  rw [← h4] at hc ht hm
  exact ⟨h2, ⟨fun q hq => (hc.each q hq).mono (by omega), hc.rising⟩, ⟨fun q hq => by rcases ht.to q hq with h1 | h1; exact .inl h1; exact .inr ⟨h1.1, Int.lt_of_lt_of_le h1.2 (by omega)⟩, ht.one⟩,
    ⟨fun q hq => by have := hm.lt q hq; omega, hm.ne, hm.res, hm.ans⟩⟩
end Go.Proofs.YtjdckepbihcgfaaGreatDoor

namespace Go.Proofs.YtjdckepbihcgfaaGreatDoor
open Go.RowKit

structure Bd where
  kind : Int
  a : Int
  b : Int
  deriving DecidableEq, Inhabited
def Bd.enc (x : Bd) : List Value := [.int .i64 x.kind, .int .i64 x.a, .int .i64 x.b]
def clK (cs : List Cl) (i : Nat) : Cl := cs.getD i default
theorem clK_eq {cs : List Cl} {i : Nat} (h : i < cs.length) : clK cs i = cs[i] := by simp [clK, h]
/-! lists sorted by a key -/
/-! the first of a list, and the first two -/
end Go.Proofs.YtjdckepbihcgfaaGreatDoor

namespace Go.Proofs.YtjdckepbihcgfaaGreatDoor
/-! Sets as ascending lists -/
def Asc (s : List Int) : Prop := s.Pairwise (· < ·)
def posI (s : List Int) (a : Int) : Nat := (s.takeWhile (fun x => decide (x < a))).length
theorem pos_split {s : List Int} (h : Asc s) (a : Int) : (∀ x ∈ s.take (posI s a), x < a) ∧ (∀ x ∈ s.drop (posI s a), a ≤ x) ∧ posI s a ≤ s.length := by
  induction s with
  | nil => simp [posI]
  | cons y s ih =>
    obtain ⟨h1, h2⟩ := List.pairwise_cons.1 h
    obtain ⟨i1, i2, i3⟩ := ih h2
    unfold posI at i1 i2 i3 ⊢
    rw [List.takeWhile_cons]
    by_cases hy : y < a
    · simp only [hy, decide_true, if_true, List.length_cons, List.take_succ_cons, List.drop_succ_cons]
      exact ⟨fun x hx => by rcases List.mem_cons.1 hx with rfl | hx; exact hy; exact i1 x hx, i2, by omega⟩
    · simp only [hy, decide_false, Bool.false_eq_true, if_false, List.length_nil, List.take_zero, List.drop_zero]
      refine ⟨by simp, fun x hx => ?_, by simp⟩
      rcases List.mem_cons.1 hx with rfl | hx
      · omega
      · have := h1 x hx; omega
/-- where it stands is told by what is about it -/
theorem pos_of {s : List Int} {a : Int} {i : Nat} (hi : i ≤ s.length) (h1 : ∀ j (hj : j < s.length), j < i → s[j] < a) (h2 : ∀ j (hj : j < s.length), i ≤ j → a ≤ s[j]) : posI s a = i := by
  induction s generalizing i with
  | nil => simp at hi; subst hi; rfl
  | cons y s ih =>
    unfold posI at ih ⊢
    rw [List.takeWhile_cons]
    cases i with
    | zero =>
      have := h2 0 (by simp) (by omega)
      simp only [List.getElem_cons_zero] at this
      have hy : ¬ y < a := by omega
      simp [hy]
    | succ i =>
      have hy := h1 0 (by simp) (by omega)
      simp only [List.getElem_cons_zero] at hy
      simp only [hy, decide_true, if_true, List.length_cons]
      rw [ih (i := i) (by simpa using hi) (fun j hj hji => by have := h1 (j + 1) (by simpa using hj) (by omega); simpa using this) (fun j hj hji => by have := h2 (j + 1) (by simpa using hj) (by omega); simpa using this)]
/-- what the code does to a set -/
def setP (s : List Int) (kind a : Int) : List Int × Int :=
  if s.contains a = true then (if kind = 7 then (s, 0) else if kind = 8 then (s.take (posI s a) ++ s.drop (posI s a + 1), 1) else (s, 1))
  else (if kind = 7 then (s.take (posI s a) ++ a :: s.drop (posI s a), 1) else (s, 0))
/-! States -/
def okI (x : Int) : Bool := decide (1 ≤ x) && decide (x ≤ 1000)
def ascB (s : List Int) : Bool := (List.range (s.length - 1)).all fun j => decide (s.getD j 0 < s.getD (j + 1) 0)
theorem ascB_iff (s : List Int) : ascB s = true ↔ ∀ j, j + 1 < s.length → s.getD j 0 < s.getD (j + 1) 0 := by
  unfold ascB
  rw [List.all_eq_true]
  constructor
  · intro h j hj
    simpa using h j (by rw [List.mem_range]; omega)
  · intro h j hj
    rw [List.mem_range] at hj
    simpa using h j (by omega)
theorem asc_of {s : List Int} (h : ascB s = true) : Asc s := by
  rw [ascB_iff] at h
  unfold Asc
  induction s with
  | nil => exact .nil
  | cons x s ih =>
    have hs := ih (fun j hj => by have := h (j + 1) (by simpa using hj); simpa using this)
    refine List.pairwise_cons.2 ⟨fun y hy => ?_, hs⟩
    cases s with
    | nil => simp at hy
    | cons z s =>
      have h0 := h 0 (by simp)
      simp only [List.getD_cons_zero, List.getD_cons_succ] at h0
      rcases List.mem_cons.1 hy with rfl | hy
      · exact h0
      · have := (List.pairwise_cons.1 hs).1 y hy
        omega
def oneB (s : List Int) : Bool := decide (s.length = 1) && (decide (0 ≤ s.getD 0 0) && decide (s.getD 0 0 ≤ 1000))
def validS (typ : Int) (s : List Int) : Bool := if typ = 1 ∨ typ = 5 then oneB s else if typ = 4 then ascB s && s.all okI else s.all okI
def typB (typ : Int) : Bool := decide (1 ≤ typ) && decide (typ ≤ 5)
def chkS (typ : Int) (s : List Int) : Int := if typB typ = true then (if 50 < s.length then 2 else if validS typ s = true then 0 else 3) else 1
/-! Steps -/
/-- what a step answers: the state behind, the answer, what is wrong -/
abbrev Res := List Int × Int × Int
def stepP (typ : Int) (s : List Int) (kind a : Int) : Res :=
  if typ = 1 then (if kind = 1 then ([a], 0, 0) else (s, s.getD 0 0, 0))
  else if typ = 2 then (if kind = 3 then (if s.length = 50 then ([], 0, 2) else (s ++ [a], 0, 0)) else if s.length = 0 then (s, -1, 0) else (s.drop 1, s.getD 0 0, 0))
  else if typ = 3 then (if kind = 5 then (if s.length = 50 then ([], 0, 2) else (s ++ [a], 0, 0)) else if s.length = 0 then (s, -1, 0) else (s.take (s.length - 1), s.getD (s.length - 1) 0, 0))
  else if typ = 4 then (if kind = 7 ∧ s.contains a = false ∧ s.length = 50 then ([], 0, 2) else ((setP s kind a).1, (setP s kind a).2, 0))
  else (if s.getD 0 0 = 1000 then ([], 0, 2) else ([s.getD 0 0 + 1], s.getD 0 0, 0))
/-- a type and a kind that go together -/
def fitB (typ kind : Int) : Prop := typ = 1 ∧ (kind = 1 ∨ kind = 2) ∨ typ = 2 ∧ (kind = 3 ∨ kind = 4) ∨ typ = 3 ∧ (kind = 5 ∨ kind = 6) ∨ typ = 4 ∧ (kind = 7 ∨ kind = 8 ∨ kind = 9) ∨ typ = 5 ∧ kind = 10
theorem all_okI_of {s t : List Int} (h : s.all okI = true) (hs : ∀ x ∈ t, x ∈ s) : t.all okI = true := by
  rw [List.all_eq_true] at h ⊢
  exact fun x hx => h x (hs x hx)
theorem ascB_of {s : List Int} (h : Asc s) : ascB s = true := by
  rw [ascB_iff]
  intro j hj
  have h1 : s.getD j 0 = s[j] := by simp [List.getD_eq_getElem?_getD, show j < s.length by omega]
  have h2 : s.getD (j + 1) 0 = s[j + 1] := by simp [List.getD_eq_getElem?_getD, hj]
  rw [h1, h2]
  exact (List.pairwise_iff_getElem.1 h) j (j + 1) (by omega) hj (by omega)
theorem setP_valid {s : List Int} {kind a : Int} (hs : Asc s) (ho : s.all okI = true) (ha : okI a = true) : Asc (setP s kind a).1 ∧ (setP s kind a).1.all okI = true := by
  obtain ⟨p1, p2, p3⟩ := pos_split hs a
  unfold setP
  generalize posI s a = i at *
  have hsp : s = s.take i ++ s.drop i := (List.take_append_drop i s).symm
  split
  · split
    · exact ⟨hs, ho⟩
    · split
      · refine ⟨?_, all_okI_of ho fun x hx => ?_⟩
        · have : (s.take i ++ s.drop (i + 1)).Sublist s := by
            conv => rhs; rw [hsp]
            refine List.Sublist.append (List.Sublist.refl _) ?_
            rw [← List.drop_drop]
            exact List.drop_sublist 1 _
          exact hs.sublist this
        · rcases List.mem_append.1 hx with h | h
          · exact List.mem_of_mem_take h
          · exact List.mem_of_mem_drop h
      · exact ⟨hs, ho⟩
  · rename_i hc
    split
    · refine ⟨?_, ?_⟩
      · unfold Asc at hs ⊢
        rw [hsp, List.pairwise_append] at hs
        obtain ⟨q1, q2, q3⟩ := hs
        rw [List.pairwise_append, List.pairwise_cons]
        refine ⟨q1, ⟨fun y hy => ?_, q2⟩, fun x hx y hy => ?_⟩
        · have h1 := p2 y hy
          have h2 : a ≠ y := fun e => by
            subst e
            exact hc (by simpa using List.mem_of_mem_drop hy)
          omega
        · rcases List.mem_cons.1 hy with rfl | hy
          · exact p1 x hx
          · exact q3 x hx y hy
      · rw [List.all_append, List.all_cons, ha, Bool.true_and, Bool.and_eq_true]
        exact ⟨all_okI_of ho fun x hx => List.mem_of_mem_take hx, all_okI_of ho fun x hx => List.mem_of_mem_drop hx⟩
    · exact ⟨hs, ho⟩
theorem setP_len {s : List Int} {kind a : Int} (h50 : s.length ≤ 50) (hn : ¬ (kind = 7 ∧ s.contains a = false ∧ s.length = 50)) : (setP s kind a).1.length ≤ 50 := by
  unfold setP
  split
  · split
    · exact h50
    · split
      · simp only [List.length_append, List.length_take, List.length_drop]; omega
      · exact h50
  · rename_i hc
    split
    · rename_i hk
      have hc' : s.contains a = false := by simpa using hc
      have : s.length ≠ 50 := fun e => hn ⟨hk, hc', e⟩
      simp only [List.length_append, List.length_take, List.length_cons, List.length_drop]; omega
    · exact h50
theorem chkS_ok {typ : Int} {s : List Int} (h : chkS typ s = 0) : typB typ = true ∧ s.length ≤ 50 ∧ validS typ s = true := by
  unfold chkS at h
  split at h
  · rename_i h1
    split at h
    · cases h
    · split at h
      · exact ⟨h1, by omega, by assumption⟩
      · cases h
  · cases h
theorem chkS_mk {typ : Int} {s : List Int} (h1 : typB typ = true) (h2 : s.length ≤ 50) (h3 : validS typ s = true) : chkS typ s = 0 := by
  unfold chkS
  rw [if_pos h1, if_neg (by omega), if_pos h3]
theorem okI_of {kind a : Int} (h : argB kind a = true) (hk : ¬ (kind = 2 ∨ kind = 4 ∨ kind = 6 ∨ kind = 10)) : okI a = true := by
  unfold argB at h
  rw [if_neg hk] at h
  simp only [decide_eq_true_eq] at h
  simp [okI, h.1, h.2]
theorem step_valid {typ : Int} {s : List Int} {kind a : Int} (h : chkS typ s = 0) (hf : fitB typ kind) (ha : argB kind a = true) (he : (stepP typ s kind a).2.2 = 0) : chkS typ (stepP typ s kind a).1 = 0 := by
  obtain ⟨h1, h2, h3⟩ := chkS_ok h
  rcases hf with ⟨rfl, rfl | rfl⟩ | ⟨rfl, rfl | rfl⟩ | ⟨rfl, rfl | rfl⟩ | ⟨rfl, hk⟩ | ⟨rfl, rfl⟩
  · have := okI_of ha (by decide)
    simp only [okI, Bool.and_eq_true, decide_eq_true_eq] at this
    refine chkS_mk h1 (by simp [stepP]) ?_
    simp [stepP, validS, oneB]; omega
  · simpa [stepP] using h
  · have := okI_of ha (by decide)
    simp only [stepP] at he ⊢
    by_cases h50 : s.length = 50
    · simp [h50] at he
    · simp only [h50]
      refine chkS_mk h1 (by simp; omega) ?_
      simp only [validS] at h3 ⊢
      simpa [this] using h3
  · simp only [stepP] at he ⊢
    by_cases h0 : s.length = 0
    · simpa [h0] using h
    · refine chkS_mk h1 (by simp [h0]; omega) ?_
      simp only [validS, h0] at h3 ⊢
      have h3' : s.all okI = true := by simpa using h3
      simpa using all_okI_of h3' (t := s.drop 1) fun x hx => List.mem_of_mem_drop hx
  · have := okI_of ha (by decide)
    simp only [stepP] at he ⊢
    by_cases h50 : s.length = 50
    · simp [h50] at he
    · simp only [h50]
      refine chkS_mk h1 (by simp; omega) ?_
      simp only [validS] at h3 ⊢
      simpa [this] using h3
  · simp only [stepP] at he ⊢
    by_cases h0 : s.length = 0
    · simpa [h0] using h
    · refine chkS_mk h1 (by simp [h0]; omega) ?_
      simp only [validS, h0] at h3 ⊢
      have h3' : s.all okI = true := by simpa using h3
      simpa using all_okI_of h3' (t := s.take (s.length - 1)) fun x hx => List.mem_of_mem_take hx
  · have ho := okI_of ha (by omega)
    have h3' : ascB s = true ∧ s.all okI = true := by simpa [validS] using h3
    obtain ⟨v1, v2⟩ := setP_valid (kind := kind) (asc_of h3'.1) h3'.2 ho
    have e : (4 : Int) = 4 := rfl
    by_cases hfull : kind = 7 ∧ s.contains a = false ∧ s.length = 50
    · unfold stepP at he
      rw [if_neg (by decide), if_neg (by decide), if_neg (by decide), if_pos rfl, if_pos hfull] at he; cases he
    · have hs : stepP 4 s kind a = ((setP s kind a).1, (setP s kind a).2, 0) := by
        unfold stepP
        rw [if_neg (by decide), if_neg (by decide), if_neg (by decide), if_pos rfl, if_neg hfull]
      rw [hs]
      refine chkS_mk h1 (setP_len h2 hfull) ?_
      simp only [validS]
      rw [if_neg (by decide), if_pos trivial, Bool.and_eq_true]
      exact ⟨ascB_of v1, v2⟩
  · simp only [stepP] at he ⊢
    have h3' : oneB s = true := by simpa [validS] using h3
    simp only [oneB, Bool.and_eq_true, decide_eq_true_eq] at h3'
    by_cases hm : s.getD 0 0 = 1000
    · rw [if_neg (by decide), if_neg (by decide), if_neg (by decide), if_neg (by decide), if_pos hm] at he; cases he
    · rw [if_neg (by decide), if_neg (by decide), if_neg (by decide), if_neg (by decide), if_neg hm]
      refine chkS_mk h1 (by simp) ?_
      simp only [validS, oneB, List.getD_cons_zero, List.length_singleton]
      rw [if_pos (by decide), Bool.and_eq_true, Bool.and_eq_true, decide_eq_true_eq, decide_eq_true_eq, decide_eq_true_eq]
      exact ⟨trivial, by omega, by omega⟩
theorem step_bad {typ : Int} {s : List Int} {kind a : Int} (h : (stepP typ s kind a).2.2 ≠ 0) : stepP typ s kind a = ([], 0, 2) := by
  unfold stepP at h ⊢
  repeat' split at h
  all_goals first | (exact absurd rfl h) | skip
  all_goals simp_all
end Go.Proofs.YtjdckepbihcgfaaGreatDoor

namespace Go.Proofs.YtjdckepbihcgfaaGreatDoor
open Go.RowKit
theorem fits_C (t k : Int) (w : World) : Calls Tryz.prog 92 #[.int .i64 t, .int .i64 k] w fun e w' => e = .returned (.bool ((kindsL t).contains k)) ∧ Below w.heap.size w w' :=
  (Calls.same_below (fits_any t k w)).mono fun e w' h => by rw [← typeF_kinds]; exact h
theorem argument_C (k n : Int) (w : World) : Calls Tryz.prog 93 #[.int .i64 k, .int .i64 n] w fun e w' => e = .returned (.bool (argB k n)) ∧ Below w.heap.size w w' :=
  Calls.same_below (argument_any k n w)
end Go.Proofs.YtjdckepbihcgfaaGreatDoor

namespace Go.Proofs.YtjdckepbihcgfaaGreatDoor
open Go.RowKit

instance : PlainT Tryz.prog 241 := plainT_of Tryz.underlying241
instance : PlainT Tryz.prog 244 := plainT_of Tryz.underlying244
instance : PlainT Tryz.prog 245 := plainT_of Tryz.underlying245
instance : PlainT Tryz.prog 246 := plainT_of Tryz.underlying246
instance : PlainT Tryz.prog 247 := plainT_of Tryz.underlying247
instance : IfaceT Tryz.prog 191 := ⟨⟨_, Tryz.underlying191⟩⟩
instance : CellsZ Tryz.prog 244 := ⟨by kernel_rfl⟩
instance : CellsZ Tryz.prog 245 := ⟨by kernel_rfl⟩
instance : CellsZ Tryz.prog 246 := ⟨by kernel_rfl⟩
instance : FieldZ Tryz.prog 244 0 := ⟨⟨_, _, Tryz.underlying244, rfl, rfl, rfl, Tryz.sizeOf242⟩⟩
instance : FieldZ Tryz.prog 245 0 := ⟨⟨_, _, Tryz.underlying245, rfl, rfl, rfl, Tryz.sizeOf242⟩⟩
instance : FieldZ Tryz.prog 246 0 := ⟨⟨_, _, Tryz.underlying246, rfl, rfl, rfl, Tryz.sizeOf242⟩⟩

def obV (typ : Int) : Value :=
  if typ = 1 then .iface 241 (.agg #[]) else if typ = 2 then .iface 244 (.agg #[]) else if typ = 3 then .iface 245 (.agg #[])
  else if typ = 4 then .iface 246 (.agg #[]) else if typ = 5 then .iface 247 (.agg #[]) else .nilIface
set_option maxRecDepth 100000 in
theorem of_any (typ : Int) (w : World) : Calls Tryz.prog 132 #[.int .i64 typ] w fun e w' => e = .returned (obV typ) ∧ Below w.heap.size w w' := by
  refine calls_T (S := []) [] Tryz.func132 rfl Tryz.ntmps132 (by simp) (Mem.nil _) ?_
  repeat' (first | ((first | with_reducible (first | apply TL_q | apply TD_q0 | apply TD_q1 | apply TD_q2 | apply TD_q3) | ((with_reducible (first | apply TD_q0y | apply TD_q1y)); exact rfl; exact rfl; (with_reducible exact rfl))); (first | ((with_reducible apply QS_makeInterface); exact rfl) | ((with_reducible apply QS_ifaceSome); exact rfl; exact rfl) | ((with_reducible apply QS_ifaceNil); exact rfl; exact rfl) | ((with_reducible apply QS_fieldZ); exact rfl; (first | ((repeat (first | with_reducible exact List.mem_cons_self | with_reducible apply List.mem_cons_of_mem)); done) | (repeat (first | exact List.Mem.head _ | apply List.Mem.tail)))) | ((with_reducible apply QS_load); exact rfl; exact Lds.zero _) | exact QS.auto); exact rfl) | refine GO ?_ | (refine GOE ?_; (first | rintro _ _ ⟨rfl, rfl⟩ | rintro _ _ ⟨g, rfl, rfl⟩ | rintro _ _ ⟨A', c', rfl, rfl⟩)) | (refine GO2 ?_ ?_ <;> (refine Zs ?_; intro h; try exact Zx)) | fail)
  all_goals (refine At_ret Tryz.results132 rfl (fun w' hw => ?_))
  all_goals refine ⟨?_, hw.below0 rfl⟩
  all_goals simp only [obV]
  all_goals (try subst_vars)
  all_goals (try simp only [*, if_true, if_false])
  all_goals rfl
set_option maxRecDepth 100000 in
theorem singleStart_any (w : World) : Calls Tryz.prog 280 #[.agg #[]] w fun e w' => ∃ A c, e = .returned (.slice A ([0] : List Int).length c) ∧ Own intEnc 1 3 w' w.heap.size (.slice A ([0] : List Int).length c) [0] ∧ Below w.heap.size w w' := by
  refine calls_T (S := []) [] Tryz.func280 rfl Tryz.ntmps280 (by simp) (Mem.nil _) ?_
  repeat' (first | ((first | with_reducible (first | apply TL_q | apply TD_q0 | apply TD_q1 | apply TD_q2 | apply TD_q3) | ((with_reducible (first | apply TD_q0y | apply TD_q1y)); exact rfl; exact rfl; (with_reducible exact rfl))); (first | ((with_reducible apply QS_makeInterface); exact rfl) | ((with_reducible apply QS_ifaceSome); exact rfl; exact rfl) | ((with_reducible apply QS_ifaceNil); exact rfl; exact rfl) | ((with_reducible apply QS_fieldZ); exact rfl; (first | ((repeat (first | with_reducible exact List.mem_cons_self | with_reducible apply List.mem_cons_of_mem)); done) | (repeat (first | exact List.Mem.head _ | apply List.Mem.tail)))) | ((with_reducible apply QS_load); exact rfl; exact Lds.zero _) | exact QS.auto); exact rfl) | refine GO ?_ | (refine GOE ?_; (first | rintro _ _ ⟨rfl, rfl⟩ | rintro _ _ ⟨g, rfl, rfl⟩ | rintro _ _ ⟨A', c', rfl, rfl⟩)) | (refine GO2 ?_ ?_ <;> (refine Zs ?_; intro h; try exact Zx)) | fail)
  (refine At_ret Tryz.results280 rfl (fun w' hw => ?_))
  exact ⟨_, _, rfl, hw.blkOut (enc := intEnc) [0] rfl Zm rfl (fun _ => rfl) (by decide), hw.below0 rfl⟩
set_option maxRecDepth 100000 in
theorem manyStart_any (w : World) : Calls Tryz.prog 283 #[.agg #[]] w fun e w' => e = .returned (.slice none 0 0) ∧ Below w.heap.size w w' := by
  refine calls_T (S := []) [] Tryz.func283 rfl Tryz.ntmps283 (by simp) (Mem.nil _) ?_
  repeat' (first | ((first | with_reducible (first | apply TL_q | apply TD_q0 | apply TD_q1 | apply TD_q2 | apply TD_q3) | ((with_reducible (first | apply TD_q0y | apply TD_q1y)); exact rfl; exact rfl; (with_reducible exact rfl))); (first | ((with_reducible apply QS_makeInterface); exact rfl) | ((with_reducible apply QS_ifaceSome); exact rfl; exact rfl) | ((with_reducible apply QS_ifaceNil); exact rfl; exact rfl) | ((with_reducible apply QS_fieldZ); exact rfl; (first | ((repeat (first | with_reducible exact List.mem_cons_self | with_reducible apply List.mem_cons_of_mem)); done) | (repeat (first | exact List.Mem.head _ | apply List.Mem.tail)))) | ((with_reducible apply QS_load); exact rfl; exact Lds.zero _) | exact QS.auto); exact rfl) | refine GO ?_ | (refine GOE ?_; (first | rintro _ _ ⟨rfl, rfl⟩ | rintro _ _ ⟨g, rfl, rfl⟩ | rintro _ _ ⟨A', c', rfl, rfl⟩)) | (refine GO2 ?_ ?_ <;> (refine Zs ?_; intro h; try exact Zx)) | fail)
  (refine At_ret Tryz.results283 rfl (fun w' hw => ?_))
  exact ⟨rfl, hw.below0 rfl⟩
section
variable (A : Option Addr) (c : Nat) (s : List Int) (w : World) (hA : RdInt w A s)
include hA
set_option maxRecDepth 100000 in
theorem singleValid_any : Calls Tryz.prog 281 #[.agg #[], .slice A s.length c] w fun e w' => e = .returned (.bool (oneB s)) ∧ Below w.heap.size w w' := by
  by_cases h1 : s.length = 1
  · obtain ⟨x, rfl⟩ := List.length_eq_one_iff.1 h1
    obtain ⟨b, o, rfl, _⟩ := RdE.open hA (by simp)
    refine calls_T (S := []) [] Tryz.func281 rfl Tryz.ntmps281 (by simp) (Mem.nil _) ?_
    repeat' (first | ((first | with_reducible (first | apply TL_q | apply TD_q0 | apply TD_q1 | apply TD_q2 | apply TD_q3) | ((with_reducible (first | apply TD_q0y | apply TD_q1y)); exact rfl; exact rfl; (with_reducible exact rfl))); (first | ((with_reducible apply QS_makeInterface); exact rfl) | ((with_reducible apply QS_ifaceSome); exact rfl; exact rfl) | ((with_reducible apply QS_ifaceNil); exact rfl; exact rfl) | ((with_reducible apply QS_fieldZ); exact rfl; (first | ((repeat (first | with_reducible exact List.mem_cons_self | with_reducible apply List.mem_cons_of_mem)); done) | (repeat (first | exact List.Mem.head _ | apply List.Mem.tail)))) | ((with_reducible apply QS_load); exact rfl; exact Lds.zero _) | exact QS.auto); exact rfl) | refine GO ?_ | (refine GOE ?_; (first | rintro _ _ ⟨rfl, rfl⟩ | rintro _ _ ⟨g, rfl, rfl⟩ | rintro _ _ ⟨A', c', rfl, rfl⟩)) | (refine GO2 ?_ ?_ <;> (refine Zs ?_; intro h; try exact Zx)) | fail)
    all_goals (refine At_ret Tryz.results281 rfl (fun w' hw => ?_))
    · refine ⟨?_, hw.below0 rfl⟩
      have h0 : (0 : Int) ≤ x := ‹0 ≤ [x][0]›
      simp [oneB, resVal, h0]
    · refine ⟨?_, hw.below0 rfl⟩
      have h0 : x < (0 : Int) := ‹[x][0] < 0›
      simp [oneB, resVal]
      omega
  · refine calls_T (S := []) [] Tryz.func281 rfl Tryz.ntmps281 (by simp) (Mem.nil _) ?_
    repeat' (first | ((first | with_reducible (first | apply TL_q | apply TD_q0 | apply TD_q1 | apply TD_q2 | apply TD_q3) | ((with_reducible (first | apply TD_q0y | apply TD_q1y)); exact rfl; exact rfl; (with_reducible exact rfl))); (first | ((with_reducible apply QS_makeInterface); exact rfl) | ((with_reducible apply QS_ifaceSome); exact rfl; exact rfl) | ((with_reducible apply QS_ifaceNil); exact rfl; exact rfl) | ((with_reducible apply QS_fieldZ); exact rfl; (first | ((repeat (first | with_reducible exact List.mem_cons_self | with_reducible apply List.mem_cons_of_mem)); done) | (repeat (first | exact List.Mem.head _ | apply List.Mem.tail)))) | ((with_reducible apply QS_load); exact rfl; exact Lds.zero _) | exact QS.auto); exact rfl) | refine GO ?_ | (refine GOE ?_; (first | rintro _ _ ⟨rfl, rfl⟩ | rintro _ _ ⟨g, rfl, rfl⟩ | rintro _ _ ⟨A', c', rfl, rfl⟩)) | (refine GO2 ?_ ?_ <;> (refine Zs ?_; intro h; try exact Zx)) | fail)
    (refine At_ret Tryz.results281 rfl (fun w' hw => ?_))
    exact ⟨by simp [oneB, resVal, h1], hw.below0 rfl⟩
def badOk (x : Int) : Bool := !okI x
set_option maxRecDepth 100000 in
omit hA in
theorem badOk_any (x : Int) : Calls Tryz.prog 285 #[.int .i64 x] w fun e w' => e = .returned (.bool (badOk x)) ∧ Below w.heap.size w w' := by
  refine calls_T (S := []) [] Tryz.func285 rfl Tryz.ntmps285 (by simp) (Mem.nil _) ?_
  repeat' (first | ((first | with_reducible (first | apply TL_q | apply TD_q0 | apply TD_q1 | apply TD_q2 | apply TD_q3) | ((with_reducible (first | apply TD_q0y | apply TD_q1y)); exact rfl; exact rfl; (with_reducible exact rfl))); (first | ((with_reducible apply QS_makeInterface); exact rfl) | ((with_reducible apply QS_ifaceSome); exact rfl; exact rfl) | ((with_reducible apply QS_ifaceNil); exact rfl; exact rfl) | ((with_reducible apply QS_fieldZ); exact rfl; (first | ((repeat (first | with_reducible exact List.mem_cons_self | with_reducible apply List.mem_cons_of_mem)); done) | (repeat (first | exact List.Mem.head _ | apply List.Mem.tail)))) | ((with_reducible apply QS_load); exact rfl; exact Lds.zero _) | exact QS.auto); exact rfl) | refine GO ?_ | (refine GOE ?_; (first | rintro _ _ ⟨rfl, rfl⟩ | rintro _ _ ⟨g, rfl, rfl⟩ | rintro _ _ ⟨A', c', rfl, rfl⟩)) | (refine GO2 ?_ ?_ <;> (refine Zs ?_; intro h; try exact Zx)) | fail)
  all_goals (refine At_ret Tryz.results285 rfl (fun w' hw => ?_))
  all_goals refine ⟨?_, hw.below0 rfl⟩
  · have h0 : x < (1 : Int) := ‹x < 1›
    have : badOk x = true := by simp [badOk, okI]; omega
    rw [this]; rfl
  · have h0 : (1 : Int) ≤ x := ‹1 ≤ x›
    have : badOk x = decide (1000 < x) := by
      rw [Bool.eq_iff_iff]; simp [badOk, okI]; omega
    rw [this]; rfl
variable (hl : s.length ≤ 9223372036854775807)
include hl
set_option maxRecDepth 100000 in
theorem idxOk_any : Calls Tryz.prog 136 #[.slice A s.length c, .func (.func 285) #[] #[]] w fun e w' => e = .returned (.int .i64 (if s.any badOk = true then (s.findIdx badOk : Int) else -1)) ∧ Below w.heap.size w w' := by
  refine calls_T (S := []) [] Tryz.func136 rfl Tryz.ntmps136 (by simp) (Mem.nil _) ?_
  repeat' (first | ((first | with_reducible (first | apply TL_q | apply TD_q0 | apply TD_q1 | apply TD_q2 | apply TD_q3) | ((with_reducible (first | apply TD_q0y | apply TD_q1y)); exact rfl; exact rfl; (with_reducible exact rfl))); (first | ((with_reducible apply QS_makeInterface); exact rfl) | ((with_reducible apply QS_ifaceSome); exact rfl; exact rfl) | ((with_reducible apply QS_ifaceNil); exact rfl; exact rfl) | ((with_reducible apply QS_fieldZ); exact rfl; (first | ((repeat (first | with_reducible exact List.mem_cons_self | with_reducible apply List.mem_cons_of_mem)); done) | (repeat (first | exact List.Mem.head _ | apply List.Mem.tail)))) | ((with_reducible apply QS_load); exact rfl; exact Lds.zero _) | exact QS.auto); exact rfl) | refine GO ?_ | (refine GOE ?_; (first | rintro _ _ ⟨rfl, rfl⟩ | rintro _ _ ⟨g, rfl, rfl⟩ | rintro _ _ ⟨A', c', rfl, rfl⟩)) | (refine GO2 ?_ ?_ <;> (refine Zs ?_; intro h; try exact Zx)) | fail)
  refine T_loop (X := Nat) (fun k => [(8, .int .i64 (k : Nat)), (7, .int .i64 (s.length : Nat)), (1, .func (.func 285) #[] #[]), (0, .slice A s.length c)]) (fun _ => [])
    (fun k => k ≤ s.length ∧ (s.take k).any badOk = false) (fun k => s.length - k) 0 ⟨by omega, by simp⟩ Ze (by exact SUBS) ?_
  rintro k ⟨hk, hno⟩
  by_cases hkl : k < s.length
  · obtain ⟨b, o, rfl, _⟩ := RdE.open hA (by omega)
    have hb := fun w => badOk_any w s[k]
    generalize hz : badOk s[k] = z at hb
    repeat' (first | ((first | with_reducible (first | apply TL_q | apply TD_q0 | apply TD_q1 | apply TD_q2 | apply TD_q3) | ((with_reducible (first | apply TD_q0y | apply TD_q1y)); exact rfl; exact rfl; (with_reducible exact rfl))); (first | ((with_reducible apply QS_makeInterface); exact rfl) | ((with_reducible apply QS_ifaceSome); exact rfl; exact rfl) | ((with_reducible apply QS_ifaceNil); exact rfl; exact rfl) | ((with_reducible apply QS_fieldZ); exact rfl; (first | ((repeat (first | with_reducible exact List.mem_cons_self | with_reducible apply List.mem_cons_of_mem)); done) | (repeat (first | exact List.Mem.head _ | apply List.Mem.tail)))) | ((with_reducible apply QS_load); exact rfl; exact Lds.zero _) | exact QS.auto); exact rfl) | refine GO ?_ | (refine GOE ?_; (first | rintro _ _ ⟨rfl, rfl⟩ | rintro _ _ ⟨g, rfl, rfl⟩ | rintro _ _ ⟨A', c', rfl, rfl⟩)) | (refine GO2 ?_ ?_ <;> (refine Zs ?_; intro h; try exact Zx)) | ((with_reducible (first | apply TD_e2z | apply TD_e3z | apply TL_e | apply TD_e2 | apply TD_e3)); ((with_reducible apply ES_callFV (f := 285) (us := []) (cs := [])); exact rfl; exact rfl; (intro w hw; exact hb w); exact rfl); (first | exact rfl | exact ⟨rfl, rfl, rfl⟩); (rintro _ _ ⟨rfl, rfl⟩); (try refine ⟨SUB, ?_⟩)) | fail)
    · (refine At_ret Tryz.results136 rfl (fun w' hw => ?_))
      have hzt : badOk s[k] = true := by rw [hz]; assumption
      have hany : s.any badOk = true := List.any_eq_true.2 ⟨_, List.getElem_mem hkl, hzt⟩
      refine ⟨?_, hw.below0 rfl⟩
      rw [if_pos hany, findIdx_at hkl hno hzt]; rfl
    · refine At_rounds (k + 1) ⟨hkl, any_take_succ' hkl hno (by rw [hz]; assumption)⟩ (by omega) Ze (by exact SUBS)
  · obtain rfl : k = s.length := by omega
    rw [List.take_length] at hno
    repeat' (first | ((first | with_reducible (first | apply TL_q | apply TD_q0 | apply TD_q1 | apply TD_q2 | apply TD_q3) | ((with_reducible (first | apply TD_q0y | apply TD_q1y)); exact rfl; exact rfl; (with_reducible exact rfl))); (first | ((with_reducible apply QS_makeInterface); exact rfl) | ((with_reducible apply QS_ifaceSome); exact rfl; exact rfl) | ((with_reducible apply QS_ifaceNil); exact rfl; exact rfl) | ((with_reducible apply QS_fieldZ); exact rfl; (first | ((repeat (first | with_reducible exact List.mem_cons_self | with_reducible apply List.mem_cons_of_mem)); done) | (repeat (first | exact List.Mem.head _ | apply List.Mem.tail)))) | ((with_reducible apply QS_load); exact rfl; exact Lds.zero _) | exact QS.auto); exact rfl) | refine GO ?_ | (refine GOE ?_; (first | rintro _ _ ⟨rfl, rfl⟩ | rintro _ _ ⟨g, rfl, rfl⟩ | rintro _ _ ⟨A', c', rfl, rfl⟩)) | (refine GO2 ?_ ?_ <;> (refine Zs ?_; intro h; try exact Zx)) | fail)
    (refine At_ret Tryz.results136 rfl (fun w' hw => ?_))
    exact ⟨by rw [if_neg (by rw [hno]; simp)]; rfl, hw.below0 rfl⟩
set_option maxRecDepth 100000 in
theorem contOk_any : Calls Tryz.prog 91 #[.slice A s.length c, .func (.func 285) #[] #[]] w fun e w' => e = .returned (.bool (s.any badOk)) ∧ Below w.heap.size w w' := by
  have hi := fun w hA => idxOk_any A c s w hA hl
  have hval : decide ((0 : Int) ≤ (if s.any badOk = true then (s.findIdx badOk : Int) else -1)) = s.any badOk := by
    cases s.any badOk <;> simp
  generalize (if s.any badOk = true then (s.findIdx badOk : Int) else -1) = r at *
  refine calls_T (S := []) [] Tryz.func91 rfl Tryz.ntmps91 (by simp) (Mem.nil _) ?_
  repeat' (first | ((first | with_reducible (first | apply TL_q | apply TD_q0 | apply TD_q1 | apply TD_q2 | apply TD_q3) | ((with_reducible (first | apply TD_q0y | apply TD_q1y)); exact rfl; exact rfl; (with_reducible exact rfl))); (first | ((with_reducible apply QS_makeInterface); exact rfl) | ((with_reducible apply QS_ifaceSome); exact rfl; exact rfl) | ((with_reducible apply QS_ifaceNil); exact rfl; exact rfl) | ((with_reducible apply QS_fieldZ); exact rfl; (first | ((repeat (first | with_reducible exact List.mem_cons_self | with_reducible apply List.mem_cons_of_mem)); done) | (repeat (first | exact List.Mem.head _ | apply List.Mem.tail)))) | ((with_reducible apply QS_load); exact rfl; exact Lds.zero _) | exact QS.auto); exact rfl) | refine GO ?_ | (refine GOE ?_; (first | rintro _ _ ⟨rfl, rfl⟩ | rintro _ _ ⟨g, rfl, rfl⟩ | rintro _ _ ⟨A', c', rfl, rfl⟩)) | (refine GO2 ?_ ?_ <;> (refine Zs ?_; intro h; try exact Zx)) | ((with_reducible (first | apply TD_e2z | apply TD_e3z | apply TL_e | apply TD_e2 | apply TD_e3)); ((with_reducible apply ES_callV (f := 136)); exact rfl; (intro w hw; exact hi w (hw.rd rfl hA)); exact rfl); (first | exact rfl | exact ⟨rfl, rfl, rfl⟩); (rintro _ _ ⟨rfl, rfl⟩); (try refine ⟨SUB, ?_⟩)) | fail)
  (refine At_ret Tryz.results91 rfl (fun w' hw => ?_))
  exact ⟨by rw [← hval]; rfl, hw.below0 rfl⟩
omit hA hl in
theorem not_badOk (l : List Int) : (!l.any badOk) = l.all okI := by
  induction l with
  | nil => rfl
  | cons x l ih => rw [List.any_cons, List.all_cons, ← ih, badOk]; cases okI x <;> simp
set_option maxRecDepth 100000 in
theorem manyValid_any : Calls Tryz.prog 284 #[.agg #[], .slice A s.length c] w fun e w' => e = .returned (.bool (s.all okI)) ∧ Below w.heap.size w w' := by
  have hi := fun w hA => contOk_any A c s w hA hl
  rw [← not_badOk]
  generalize s.any badOk = z at *
  refine calls_T (S := []) [] Tryz.func284 rfl Tryz.ntmps284 (by simp) (Mem.nil _) ?_
  repeat' (first | ((first | with_reducible (first | apply TL_q | apply TD_q0 | apply TD_q1 | apply TD_q2 | apply TD_q3) | ((with_reducible (first | apply TD_q0y | apply TD_q1y)); exact rfl; exact rfl; (with_reducible exact rfl))); (first | ((with_reducible apply QS_makeInterface); exact rfl) | ((with_reducible apply QS_ifaceSome); exact rfl; exact rfl) | ((with_reducible apply QS_ifaceNil); exact rfl; exact rfl) | ((with_reducible apply QS_fieldZ); exact rfl; (first | ((repeat (first | with_reducible exact List.mem_cons_self | with_reducible apply List.mem_cons_of_mem)); done) | (repeat (first | exact List.Mem.head _ | apply List.Mem.tail)))) | ((with_reducible apply QS_load); exact rfl; exact Lds.zero _) | exact QS.auto); exact rfl) | refine GO ?_ | (refine GOE ?_; (first | rintro _ _ ⟨rfl, rfl⟩ | rintro _ _ ⟨g, rfl, rfl⟩ | rintro _ _ ⟨A', c', rfl, rfl⟩)) | (refine GO2 ?_ ?_ <;> (refine Zs ?_; intro h; try exact Zx)) | ((with_reducible (first | apply TD_e2z | apply TD_e3z | apply TL_e | apply TD_e2 | apply TD_e3)); ((with_reducible apply ES_callV (f := 91)); exact rfl; (intro w hw; exact hi w (hw.rd rfl hA)); exact rfl); (first | exact rfl | exact ⟨rfl, rfl, rfl⟩); (rintro _ _ ⟨rfl, rfl⟩); (try refine ⟨SUB, ?_⟩)) | fail)
  (refine At_ret Tryz.results284 rfl (fun w' hw => ?_))
  exact ⟨rfl, hw.below0 rfl⟩
set_option maxRecDepth 100000 in
theorem setValid_any : Calls Tryz.prog 290 #[.agg #[], .slice A s.length c] w fun e w' => e = .returned (.bool (ascB s && s.all okI)) ∧ Below w.heap.size w w' := by
  have hi := fun w hA => manyValid_any A c s w hA hl
  generalize s.all okI = z at *
  refine calls_T (S := []) [] Tryz.func290 rfl Tryz.ntmps290 (by simp) (Mem.nil _) ?_
  repeat' (first | ((first | with_reducible (first | apply TL_q | apply TD_q0 | apply TD_q1 | apply TD_q2 | apply TD_q3) | ((with_reducible (first | apply TD_q0y | apply TD_q1y)); exact rfl; exact rfl; (with_reducible exact rfl))); (first | ((with_reducible apply QS_makeInterface); exact rfl) | ((with_reducible apply QS_ifaceSome); exact rfl; exact rfl) | ((with_reducible apply QS_ifaceNil); exact rfl; exact rfl) | ((with_reducible apply QS_fieldZ); exact rfl; (first | ((repeat (first | with_reducible exact List.mem_cons_self | with_reducible apply List.mem_cons_of_mem)); done) | (repeat (first | exact List.Mem.head _ | apply List.Mem.tail)))) | ((with_reducible apply QS_load); exact rfl; exact Lds.zero _) | exact QS.auto); exact rfl) | refine GO ?_ | (refine GOE ?_; (first | rintro _ _ ⟨rfl, rfl⟩ | rintro _ _ ⟨g, rfl, rfl⟩ | rintro _ _ ⟨A', c', rfl, rfl⟩)) | (refine GO2 ?_ ?_ <;> (refine Zs ?_; intro h; try exact Zx)) | fail)
  obtain ⟨gs, rfl⟩ : ∃ x, x = g := ⟨_, rfl⟩
  refine T_loop (X := Nat) (fun k => [(5, .int .i64 ((k + 1 : Nat) : Int)), (2, .pointer (some ⟨gs, 0, none⟩)), (1, .slice A s.length c)]) (fun _ => [entBlk gs 246 #[]])
    (fun k => ∀ j, j < k → s.getD j 0 < s.getD (j + 1) 0) (fun k => s.length - k) 0 (fun j hj => by omega) Ze (by exact SUBS) ?_
  intro k hasc
  by_cases hkl : k + 1 < s.length
  · obtain ⟨b, o, rfl, _⟩ := RdE.open hA (by omega)
    have e1 : s.getD k 0 = s[k] := by simp [List.getD_eq_getElem?_getD, show k < s.length by omega]
    have e2 : s.getD (k + 1) 0 = s[k + 1] := by simp [List.getD_eq_getElem?_getD, hkl]
    have e3 : (((k + 1 : Nat) : Int) - 1).toNat = k := by omega
    repeat' (first | ((first | with_reducible (first | apply TL_q | apply TD_q0 | apply TD_q1 | apply TD_q2 | apply TD_q3) | ((with_reducible (first | apply TD_q0y | apply TD_q1y)); exact rfl; exact rfl; (with_reducible exact rfl))); (first | ((with_reducible apply QS_makeInterface); exact rfl) | ((with_reducible apply QS_ifaceSome); exact rfl; exact rfl) | ((with_reducible apply QS_ifaceNil); exact rfl; exact rfl) | ((with_reducible apply QS_fieldZ); exact rfl; (first | ((repeat (first | with_reducible exact List.mem_cons_self | with_reducible apply List.mem_cons_of_mem)); done) | (repeat (first | exact List.Mem.head _ | apply List.Mem.tail)))) | ((with_reducible apply QS_load); exact rfl; exact Lds.zero _) | exact QS.auto); exact rfl) | refine GG ?_ | (refine GE ?_; (first | rintro _ _ ⟨rfl, rfl⟩ | rintro _ _ ⟨g, rfl, rfl⟩ | rintro _ _ ⟨A', c', rfl, rfl⟩); (try refine ⟨SUB, ?_⟩)) | (refine GO2 ?_ ?_ <;> (refine Zs ?_; intro h; try exact Zx)) | refine GOF ?_ ?_ | ((with_reducible apply T_draw (id := 4) 1000 (OT.seq [(0, 0), (0, 1), (0, 2), (0, 3), (0, 5), (0, 6), (0, 7), (1, 4), (1, 8), (0, 9)] .nil)); kernel_rfl; exact rfl; kernel_rfl; (repeat (first | with_reducible exact Blind.body | with_reducible apply Blind.seq | with_reducible apply Blind.block))) | fail)
    · (refine At_ret Tryz.results290 rfl (fun w' hw => ?_))
      have h0 : s[k + 1] ≤ s[(((k + 1 : Nat) : Int) - 1).toNat] := ‹s[k + 1] ≤ s[(((k + 1 : Nat) : Int) - 1).toNat]›
      simp only [e3] at h0
      have hn : ascB s = false := by
        rw [Bool.eq_false_iff]; intro ht
        have := (ascB_iff s).1 ht k hkl
        omega
      exact ⟨by rw [hn]; rfl, hw.below0 rfl⟩
    · refine At_rounds (k + 1) (fun j hj => ?_) (by omega) Ze (by exact SUBS)
      have h0 : s[(((k + 1 : Nat) : Int) - 1).toNat] < s[k + 1] := ‹s[(((k + 1 : Nat) : Int) - 1).toNat] < s[k + 1]›
      simp only [e3] at h0
      by_cases e : j = k
      · subst e; omega
      · exact hasc j (by omega)
  · repeat' (first | ((first | with_reducible (first | apply TL_q | apply TD_q0 | apply TD_q1 | apply TD_q2 | apply TD_q3) | ((with_reducible (first | apply TD_q0y | apply TD_q1y)); exact rfl; exact rfl; (with_reducible exact rfl))); (first | ((with_reducible apply QS_makeInterface); exact rfl) | ((with_reducible apply QS_ifaceSome); exact rfl; exact rfl) | ((with_reducible apply QS_ifaceNil); exact rfl; exact rfl) | ((with_reducible apply QS_fieldZ); exact rfl; (first | ((repeat (first | with_reducible exact List.mem_cons_self | with_reducible apply List.mem_cons_of_mem)); done) | (repeat (first | exact List.Mem.head _ | apply List.Mem.tail)))) | ((with_reducible apply QS_load); exact rfl; exact Lds.zero _) | exact QS.auto); exact rfl) | refine GO ?_ | (refine GOE ?_; (first | rintro _ _ ⟨rfl, rfl⟩ | rintro _ _ ⟨g, rfl, rfl⟩ | rintro _ _ ⟨A', c', rfl, rfl⟩)) | (refine GO2 ?_ ?_ <;> (refine Zs ?_; intro h; try exact Zx)) | ((with_reducible (first | apply TD_e2z | apply TD_e3z | apply TL_e | apply TD_e2 | apply TD_e3)); ((with_reducible apply ES_callV (f := 284)); exact rfl; (intro w hw; exact hi w (hw.rd rfl hA)); exact rfl); (first | exact rfl | exact ⟨rfl, rfl, rfl⟩); (rintro _ _ ⟨rfl, rfl⟩); (try refine ⟨SUB, ?_⟩)) | fail)
    (refine At_ret Tryz.results290 rfl (fun w' hw => ?_))
    have ht : ascB s = true := (ascB_iff s).2 fun j hj => hasc j (by omega)
    exact ⟨by rw [ht]; rfl, hw.below0 rfl⟩
end
end Go.Proofs.YtjdckepbihcgfaaGreatDoor
