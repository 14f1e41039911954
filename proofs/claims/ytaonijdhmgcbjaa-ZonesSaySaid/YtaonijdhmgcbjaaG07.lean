/- Lemmas for the walks (Cto, Bd, S, R, Zn1, Zn2, P, Row, Th4L, Zn6, Srt). No condition. -/
import Derived.Test.YtaonijdhmgcbjaaG06
import Derived.Test.YtaonijdhmgcbjaaG03
import Derived.Test.YtaonijdhmgcbjaaG05
import Derived.Test.YtaonijdhmgcbjaaG04
import Derived.Shelf.SlSortCmp.NoneTotal
set_option linter.unusedSimpArgs false
set_option linter.unusedVariables false
set_option linter.unusedSectionVars false
set_option linter.unnecessarySimpa false
namespace Go.Proofs.Ytaonijdhmgcbjaa
open Go.RowKit

/-- what is so of the times of the calls that a reading keeps -/
structure ClsTo (i : Int) (cs : List Cl) : Prop where
  to : ∀ q (h : q < cs.length), cs[q].to = -1 ∨ (cs[q].from_ < cs[q].to ∧ cs[q].to < i)
  one : ∀ p q (h1 : p < q) (h : q < cs.length), cs[p].who = cs[q].who → cs[p].to ≠ -1 ∧ cs[p].to < cs[q].from_
theorem clsTo_step {ts : List Int} {i : Int} {cs : List Cl} (x : Ev) (hi : 0 ≤ i) (hp : ∀ q (h : q < cs.length), cs[q].from_ < i) (h : ClsTo i cs) : ClsTo (i + 1) (evR ts cs i x).2 := by
  have keep : ClsTo (i + 1) cs := ⟨fun q hq => by rcases h.to q hq with h1 | h1; exact .inl h1; exact .inr ⟨h1.1, by omega⟩, h.one⟩
  unfold evR
  by_cases hf : formBad ts x = true
  · rw [if_pos hf]; exact keep
  · rw [if_neg hf]
    by_cases hk : x.kind = 0
    · rw [if_pos hk]
      split
      · exact keep
      · split
        · rename_i hz hc
          have hlt := openTo_lt cs x.who cs.length
          obtain ⟨m, hm, hml, hmw, hmt⟩ := openTo_at (cs := cs) (who := x.who) cs.length (by omega)
          have hmt' : (openTo cs x.who cs.length).toNat = m := by omega
          rw [hmt']
          have hd : cs.getD m default = cs[m] := by simp [hml]
          rw [hd] at hmw hmt ⊢
          dsimp only
          refine ⟨fun q hq => ?_, fun p q hpq hq => ?_⟩
          · have hq' : q < cs.length := by simpa using hq
            rw [List.getElem_set]
            split
            · exact .inr ⟨hp m hml, by dsimp only; omega⟩
            · exact keep.to q hq'
          · have hq' : q < cs.length := by simpa using hq
            have ho := h.one p q hpq hq'
            rw [List.getElem_set, List.getElem_set]
            split <;> split
            · omega
            · rename_i e1 e2
              subst e1
              intro e
              exact absurd hmt (ho e).1
            · rename_i e1 e2
              subst e2
              exact ho
            · exact ho
        · exact keep
    · rw [if_neg hk]
      split
      · exact keep
      · split
        · exact keep
        · rename_i hop
          dsimp only
          refine ⟨fun q hq => ?_, fun p q hpq hq => ?_⟩
          · by_cases e : q < cs.length
            · rw [List.getElem_append_left e]; exact keep.to q e
            · rw [List.getElem_append_right (by omega)]
              simp
          · simp only [List.length_append, List.length_cons, List.length_nil] at hq
            by_cases e : q < cs.length
            · rw [List.getElem_append_left e, List.getElem_append_left (by omega)]; exact h.one p q hpq e
            · have hpl : p < cs.length := by omega
              rw [List.getElem_append_left hpl, List.getElem_append_right (by omega)]
              simp only [List.getElem_singleton]
              intro ew
              have hd : cs.getD p default = cs[p] := by simp [hpl]
              have hto : cs[p].to ≠ -1 := fun et => by
                have h1 := openTo_some (cs := cs) (who := x.who) (j := p) cs.length hpl (by rw [hd]; exact ⟨ew, et⟩)
                have := openTo_lt cs x.who cs.length
                omega
              refine ⟨hto, ?_⟩
              rcases h.to p hpl with h1 | h1
              · exact absurd h1 hto
              · exact h1.2
theorem clsTo_st (ts : List Int) (l : List Ev) : ∀ k : Nat, ClsTo (k : Int) (stR ts l k)
  | 0 => ⟨fun q h => by simp [stR] at h, fun p q _ h => by simp [stR] at h⟩
  | k + 1 => by
    have := clsTo_step (ts := ts) (i := k) (l.getD k default) (by omega) (fun q hq => ((clsOk_st ts l k).each q hq).place.2) (clsTo_st ts l k)
    rw [stR]
    exact this
/-- what else is so of them -/
structure ClsMore (i : Int) (cs : List Cl) : Prop where
  lt : ∀ q (h : q < cs.length), cs[q].to < i ∧ cs[q].from_ < i ∧ 0 ≤ cs[q].from_
  ne : ∀ p q (h1 : p < cs.length) (h2 : q < cs.length), cs[p].to ≠ cs[q].from_
  res : ∀ q (h : q < cs.length), cs[q].to = -1 → cs[q].res = 0
  ans : ∀ q (h : q < cs.length), cs[q].to ≠ -1 → ansB cs[q].kind cs[q].res = true
theorem clsMore_step {ts : List Int} {i : Int} {cs : List Cl} (x : Ev) (hi : 0 ≤ i) (h : ClsMore i cs) : ClsMore (i + 1) (evR ts cs i x).2 := by
  have keep : ClsMore (i + 1) cs := ⟨fun q hq => by have := h.lt q hq; omega, h.ne, h.res, h.ans⟩
  unfold evR
  by_cases hf : formBad ts x = true
  · rw [if_pos hf]; exact keep
  · rw [if_neg hf]
    by_cases hk : x.kind = 0
    · rw [if_pos hk]
      split
      · exact keep
      · split
        · rename_i hz hc
          have hlt := openTo_lt cs x.who cs.length
          obtain ⟨m, hm, hml, hmw, hmt⟩ := openTo_at (cs := cs) (who := x.who) cs.length (by omega)
          have hmt' : (openTo cs x.who cs.length).toNat = m := by omega
          rw [hmt'] at hc ⊢
          have hd : cs.getD m default = cs[m] := by simp [hml]
          rw [hd] at hmw hmt hc ⊢
          dsimp only
          have hfr : ∀ q (hq : q < (cs.set m { cs[m] with res := x.value, to := i }).length), ((cs.set m { cs[m] with res := x.value, to := i })[q]).from_ = (cs[q]'(by simpa using hq)).from_ := fun q hq => by
            rw [List.getElem_set]
            split
            · rename_i e; subst e; rfl
            · rfl
          refine ⟨fun q hq => ?_, fun p q hp hq => ?_, fun q hq => ?_, fun q hq => ?_⟩
          · have hq' : q < cs.length := by simpa using hq
            have := h.lt q hq'
            rw [hfr, List.getElem_set]
            split
            · dsimp only; omega
            · omega
          · have hp' : p < cs.length := by simpa using hp
            have hq' : q < cs.length := by simpa using hq
            have h1 := h.lt q hq'
            have h2 := h.ne p q hp' hq'
            rw [hfr, List.getElem_set]
            split
            · dsimp only; omega
            · exact h2
          · have hq' : q < cs.length := by simpa using hq
            rw [List.getElem_set]
            split
            · dsimp only; intro e; omega
            · exact h.res q hq'
          · have hq' : q < cs.length := by simpa using hq
            rw [List.getElem_set]
            split
            · dsimp only; intro _; exact hc.2
            · exact h.ans q hq'
        · exact keep
    · rw [if_neg hk]
      split
      · exact keep
      · split
        · exact keep
        · rename_i hop
          dsimp only
          have hlast : ∀ q (hq : q < (cs ++ [(⟨x.who, x.thing, x.kind, x.value, 0, i, -1⟩ : Cl)]).length), (∃ hq' : q < cs.length, (cs ++ [(⟨x.who, x.thing, x.kind, x.value, 0, i, -1⟩ : Cl)])[q] = cs[q]) ∨ (cs ++ [(⟨x.who, x.thing, x.kind, x.value, 0, i, -1⟩ : Cl)])[q] = ⟨x.who, x.thing, x.kind, x.value, 0, i, -1⟩ := fun q hq => by
            by_cases e : q < cs.length
            · exact .inl ⟨e, List.getElem_append_left e⟩
            · right
              rw [List.getElem_append_right (by omega)]
              simp
          refine ⟨fun q hq => ?_, fun p q hp hq => ?_, fun q hq => ?_, fun q hq => ?_⟩
          · rcases hlast q hq with ⟨e, e1⟩ | e1
            · rw [e1]; have := h.lt q e; omega
            · rw [e1]; dsimp only; omega
          · rcases hlast q hq with ⟨e, e1⟩ | e1 <;> rcases hlast p hp with ⟨g, g1⟩ | g1
            · rw [e1, g1]; exact h.ne p q g e
            · rw [e1, g1]; have := h.lt q e; dsimp only; omega
            · rw [e1, g1]; have := h.lt p g; dsimp only; omega
            · rw [e1, g1]; dsimp only; omega
          · rcases hlast q hq with ⟨e, e1⟩ | e1
            · rw [e1]; exact h.res q e
            · rw [e1]; exact fun _ => rfl
          · rcases hlast q hq with ⟨e, e1⟩ | e1
            · rw [e1]; exact h.ans q e
            · rw [e1]; dsimp only; intro e2; exact absurd rfl e2
theorem clsMore_st (ts : List Int) (l : List Ev) : ∀ k : Nat, ClsMore (k : Int) (stR ts l k)
  | 0 => ⟨fun q h => by simp [stR] at h, fun p q h => by simp [stR] at h, fun q h => by simp [stR] at h, fun q h => by simp [stR] at h⟩
  | k + 1 => by
    have := clsMore_step (ts := ts) (i := k) (l.getD k default) (by omega) (clsMore_st ts l k)
    rw [stR]
    exact this
/-- all that is so of the calls of a reading -/
theorem callsR_all {ts : List Int} {l : List Ev} (h : (callsR ts l).2.2 = 0) : l.length ≤ 200 ∧ ClsOk ts 200 (callsR ts l).1 ∧ ClsTo 200 (callsR ts l).1 ∧ ClsMore 200 (callsR ts l).1 := by
  obtain ⟨h1, h2, _, h4⟩ := callsR_inv h
  have hc := clsOk_st ts l l.length
  have ht := clsTo_st ts l l.length
  have hm := clsMore_st ts l l.length
  rw [← h4] at hc ht hm
  exact ⟨h2, ⟨fun q hq => (hc.each q hq).mono (by omega), hc.rising⟩, ⟨fun q hq => by rcases ht.to q hq with h1 | h1; exact .inl h1; exact .inr ⟨h1.1, Int.lt_of_lt_of_le h1.2 (by omega)⟩, ht.one⟩,
    ⟨fun q hq => by have := hm.lt q hq; omega, hm.ne, hm.res, hm.ans⟩⟩
end Go.Proofs.Ytaonijdhmgcbjaa

namespace Go.Proofs.Ytaonijdhmgcbjaa
open Go.RowKit

structure Bd where
  kind : Int
  a : Int
  b : Int
  deriving DecidableEq, Inhabited
def Bd.enc (x : Bd) : List Value := [.int .i64 x.kind, .int .i64 x.a, .int .i64 x.b]
def clK (cs : List Cl) (i : Nat) : Cl := cs.getD i default
theorem clK_eq {cs : List Cl} {i : Nat} (h : i < cs.length) : clK cs i = cs[i] := by simp [clK, h]
/-- the first place where something is so; -1: there is none -/
def ixN (n : Nat) (P : Nat → Bool) : Int := match firstN n P with | some k => (k : Int) | none => -1
theorem ixN_none {n : Nat} {P : Nat → Bool} (h : ∀ i, i < n → P i = false) : ixN n P = -1 := by
  unfold ixN; rw [firstN_none h]
theorem ixN_at {n i : Nat} {P : Nat → Bool} (hi : i < n) (h1 : ∀ j, j < i → P j = false) (h : P i = true) : ixN n P = (i : Int) := by
  unfold ixN; rw [firstN_at hi h1 h]
theorem ixN_cases (n : Nat) (P : Nat → Bool) : (ixN n P = -1 ∧ ∀ i, i < n → P i = false) ∨ ∃ k : Nat, k < n ∧ ixN n P = (k : Int) ∧ P k = true ∧ ∀ j, j < k → P j = false := by
  unfold ixN
  cases h : firstN n P with
  | none => exact .inl ⟨rfl, firstN_no h⟩
  | some k =>
    obtain ⟨h1, h2, h3⟩ := firstN_some h
    exact .inr ⟨k, h1, rfl, h2, h3⟩
/-! lists sorted by a key -/
theorem key_inj {α : Type} {key : α → Int} {W : List α} (hw : W.Pairwise fun a b => key a < key b) {a b : α} (ha : a ∈ W) (hb : b ∈ W) (h : key a = key b) : a = b := by
  obtain ⟨i, hi, rfl⟩ := List.mem_iff_getElem.1 ha
  obtain ⟨j, hj, rfl⟩ := List.mem_iff_getElem.1 hb
  rw [List.pairwise_iff_getElem] at hw
  rcases Nat.lt_trichotomy i j with e | e | e
  · have := hw i j hi hj e; omega
  · subst e; rfl
  · have := hw j i hj hi e; omega
theorem sort_eq {α : Type} {key : α → Int} {S W : List α} (hp : S.Perm W) (hs : S.Pairwise fun a b => key a ≤ key b) (hw : W.Pairwise fun a b => key a < key b) : S = W :=
  List.Perm.eq_of_pairwise (le := fun a b => key a ≤ key b) (fun _ _ ha hb h1 h2 => key_inj hw (hp.mem_iff.1 ha) hb (by omega)) hs (hw.imp fun h => by omega) hp
/-! the first of a list, and the first two -/
end Go.Proofs.Ytaonijdhmgcbjaa

namespace Go.Proofs.Ytaonijdhmgcbjaa
open Go.RowKit
section
variable {P : Program} {C : Ctx} {E : Slots} {S : List Ent} {t e m g p n c ty : Nat} {x y : Operand} {v : Value}
theorem QS_sliceHigh [hs : SliceOf P t e m] {k : IntKind} {j : Nat} (hx : evo E x = some (.slice (some ⟨g, p, none⟩) n c)) (hy : evo E y = some (.int k (j : Nat))) (hj : j ≤ c) :
    QS P C E S (.slice t x none (some y) none) ty (.slice (some ⟨g, p, none⟩) j c) :=
  QS.of (fun a w ha _ => by
    have he : P.elem t = e := by simp [Program.elem, hs.und]
    have hu : P.underlying t = some (.slice (P.elem t)) := by rw [he]; exact hs.und
    have hr := run_slice_h (P := P) (w := w) t (some ⟨g, p, none⟩) n c hu k (j : Int) (by omega) (by omega)
    rw [he, hs.size w] at hr
    simp only [Result.andThen_ok, Int.toNat_natCast] at hr
    have hv : sliced (some ⟨g, p, none⟩) 0 j c m = .slice (some ⟨g, p, none⟩) j c := by
      unfold sliced
      split <;> simp [add_mk]
    rw [hv] at hr
    simp [execOp, ha.evo hx, ha.evo hy, run_sliceAt_slice (P := P) (w := w) t _ _ _ _ hu, hr])
end
end Go.Proofs.Ytaonijdhmgcbjaa

namespace Go.Proofs.Ytaonijdhmgcbjaa
open Go.RowKit

/-- a header: where a row lies -/
structure Hd where
  a : Option Addr
  n : Nat
  c : Nat
def Hd.v (h : Hd) : Value := .slice h.a h.n h.c
theorem Own.same {α : Type} {enc : α → List Value} {M e : Nat} {w w' : World} {v : Value} {l : List α} (h : ∀ g, v.ownBlock = some g → w'.heap[g]? = w.heap[g]?) (hp : Own enc M e w 0 v l) : Own enc M e w' 0 v l := by
  refine ⟨hp.1, ?_⟩
  rcases hp.2 with hn | ⟨g, cap, cur, hv, hbb, hg, rest⟩
  · exact .inl hn
  · refine .inr ⟨g, cap, cur, hv, hbb, (h g ?_).trans hg, rest⟩
    rw [hv]; rfl
section
variable {C : Ctx} {w w' : World} {S S1 S' : List Ent} {α : Type} {enc : α → List Value} {M e : Nat} {hs : List Hd} {rows : List (List α)} {l : List α} {A : Option Addr} {c : Nat}
end
section
variable {P : Program} {C : Ctx} {E : Slots} {S : List Ent} {f d ty : Nat} {ps : String} {af : Array Edge} {g0 : Option (Nat × Bool)} {α : Type} {enc : α → List Value} {M e e2 : Nat} {rows : List (List α)}
end
end Go.Proofs.Ytaonijdhmgcbjaa

namespace Go.Proofs.Ytaonijdhmgcbjaa
open Go.RowKit

structure Zon where
  value : Int
  first : Int
  last : Int
  fwd : Bool
  deriving DecidableEq, Inhabited
def Zon.enc (z : Zon) : List Value := [.int .i64 z.value, .int .i64 z.first, .int .i64 z.last, .bool z.fwd]
structure Clu where
  value : Int
  write : Int
  frm : Int
  rd : Hd
  zv : Int
  zf : Int
  zl : Int
  zw : Bool
  counts : Bool
def Clu.enc (k : Clu) : List Value := [.int .i64 k.value, .int .i64 k.write, .int .i64 k.frm, .slice k.rd.a k.rd.n k.rd.c, .int .i64 k.zv, .int .i64 k.zf, .int .i64 k.zl, .bool k.zw, .bool k.counts]
instance : Inhabited Clu := ⟨⟨0, 0, 0, ⟨none, 0, 0⟩, 0, 0, 0, false, false⟩⟩
def isWr (cs : List Cl) (v : Int) (i : Nat) : Bool := decide ((clK cs i).kind = 1) && decide ((clK cs i).arg = v)
def isRd (cs : List Cl) (v : Int) (i : Nat) : Bool := decide ((clK cs i).kind = 2) && (decide ((clK cs i).to ≠ -1) && decide ((clK cs i).res = v))
def wrBy (cs : List Cl) (v : Int) : Int := ixN cs.length (isWr cs v)
/-- a call that writes what was written -/
def againB (cs : List Cl) (i : Nat) : Bool := decide ((clK cs i).kind = 1) && (List.range i).any fun j => decide ((clK cs j).kind = 1) && decide ((clK cs j).arg = (clK cs i).arg)
def wonceR (l : List Ev) : List Cl × Int :=
  if (callsR [1] l).2.2 ≠ 0 then ([], (callsR [1] l).2.2) else if (List.range (callsR [1] l).1.length).any (againB (callsR [1] l).1) = true then ([], 6) else ((callsR [1] l).1, 0)
/-- what is so of all calls of a register -/
structure RgAll (cs : List Cl) : Prop where
  few : cs.length ≤ 200
  kind : ∀ k, k < cs.length → (clK cs k).kind = 1 ∨ (clK cs k).kind = 2
  wr : ∀ k, k < cs.length → (clK cs k).kind = 1 → 1 ≤ (clK cs k).arg ∧ (clK cs k).arg ≤ 1000
  rd : ∀ k, k < cs.length → (clK cs k).kind = 2 → (clK cs k).to ≠ -1 → 0 ≤ (clK cs k).res ∧ (clK cs k).res ≤ 1000
  to : ∀ k, k < cs.length → (clK cs k).to = -1 ∨ (0 ≤ (clK cs k).to ∧ (clK cs k).to < 200)
  frm : ∀ k, k < cs.length → 0 ≤ (clK cs k).from_ ∧ (clK cs k).from_ < 200
  ne : ∀ p q, p < cs.length → q < cs.length → (clK cs p).to ≠ (clK cs q).from_
structure RgOk (cs : List Cl) : Prop extends RgAll cs where
  one : ∀ i j, j < i → i < cs.length → (clK cs i).kind = 1 → (clK cs j).kind = 1 → (clK cs j).arg ≠ (clK cs i).arg
theorem rgAll_of {l : List Ev} (h : (callsR [1] l).2.2 = 0) : RgAll (callsR [1] l).1 := by
  obtain ⟨_, h2, h3, h4⟩ := callsR_all h
  have hkind : ∀ k (hk : k < (callsR [1] l).1.length), (callsR [1] l).1[k].kind = 1 ∨ (callsR [1] l).1[k].kind = 2 := fun k hk => by
    have h5 := (h2.each k hk).thing
    have h6 := (h2.each k hk).kind
    have e : (callsR [1] l).1[k].thing.toNat = 0 := by simp at h5; omega
    rw [e] at h6
    simpa [kindsL] using h6
  refine ⟨callsR_len _ _, fun k hk => ?_, fun k hk h3' => ?_, fun k hk h4' ht => ?_, fun k hk => ?_, fun k hk => ?_, fun p q hp hq => ?_⟩
  · rw [clK_eq hk]; exact hkind k hk
  · rw [clK_eq hk] at h3' ⊢
    have ha := (h2.each k hk).arg
    rw [h3'] at ha
    simpa [argB] using ha
  · rw [clK_eq hk] at h4' ht ⊢
    have hb := h4.ans k hk ht
    rw [h4'] at hb
    simpa [ansB] using hb
  · rw [clK_eq hk]
    have := h4.lt k hk
    rcases h3.to k hk with h | h
    · exact .inl h
    · right; omega
  · rw [clK_eq hk]
    have := h4.lt k hk
    have := (h2.each k hk).place
    omega
  · rw [clK_eq hp, clK_eq hq]; exact h4.ne p q hp hq
theorem againB_no {cs : List Cl} {i : Nat} (h : againB cs i = false) : (clK cs i).kind = 1 → ∀ j, j < i → (clK cs j).kind = 1 → (clK cs j).arg ≠ (clK cs i).arg := by
  intro e1 j hj e2 e3
  unfold againB at h
  rw [decide_eq_true e1, Bool.true_and, List.any_eq_false] at h
  have := h j (List.mem_range.2 hj)
  simp [e2, e3] at this
theorem rgOk_of {cs : List Cl} (h : RgAll cs) (hno : ∀ i, i < cs.length → againB cs i = false) : RgOk cs :=
  ⟨h, fun i j hj hi e1 e2 => againB_no (hno i hi) e1 j hj e2⟩
theorem wonceR_err {l : List Ev} (h : (callsR [1] l).2.2 ≠ 0) : wonceR l = ([], (callsR [1] l).2.2) := by unfold wonceR; rw [if_pos h]
theorem wonceR_bad {l : List Ev} (h : (callsR [1] l).2.2 = 0) {i : Nat} (hi : i < (callsR [1] l).1.length) (hb : againB (callsR [1] l).1 i = true) : wonceR l = ([], 6) := by
  unfold wonceR; rw [if_neg (by simp [h]), if_pos (List.any_eq_true.2 ⟨i, List.mem_range.2 hi, hb⟩)]
theorem wonceR_ok {l : List Ev} (h : (callsR [1] l).2.2 = 0) (hno : ∀ i, i < (callsR [1] l).1.length → againB (callsR [1] l).1 i = false) : wonceR l = ((callsR [1] l).1, 0) := by
  unfold wonceR
  rw [if_neg (by simp [h]), if_neg]
  rw [Bool.not_eq_true, List.any_eq_false]
  intro i hi
  rw [hno i (List.mem_range.1 hi)]; decide
/-- the keys that were seen -/
def seenM (cs : List Cl) : Nat → List (Int × Bool)
  | 0 => []
  | k + 1 => if (clK cs k).kind = 1 then putM (seenM cs k) (clK cs k).arg true else seenM cs k
theorem seenM_look (cs : List Cl) (n : Int) : ∀ k, (lookM (seenM cs k) n).getD false = (List.range k).any fun j => decide ((clK cs j).kind = 1) && decide ((clK cs j).arg = n)
  | 0 => rfl
  | k + 1 => by
    have ih := seenM_look cs n k
    rw [seenM, List.range_succ, List.any_append, ← ih]
    split
    · rename_i e
      rw [lookM_put]
      by_cases h : n = (clK cs k).arg
      · simp [h, e]
      · rw [if_neg h]
        have : ¬ (clK cs k).arg = n := fun q => h q.symm
        simp [this]
    · rename_i e; simp [e]
/-! clusters -/
structure Cz where
  zf : Int
  zl : Int
  some_ : Bool
  deriving DecidableEq
def readZ (cs : List Cl) (v : Int) (z : Cz) (i : Nat) : Cz := if isRd cs v i = true then ⟨min z.zf (clK cs i).to, max z.zl (clK cs i).from_, true⟩ else z
def zoneK (cs : List Cl) (v : Int) (z0 : Cz) : Nat → Cz
  | 0 => z0
  | k + 1 => readZ cs v (zoneK cs v z0 k) k
/-- the cluster of a value, ahead of its reads -/
def begZ (cs : List Cl) (v : Int) : Cz :=
  if v = 0 then ⟨-1, -1, false⟩ else ⟨if (clK cs (wrBy cs v).toNat).to = -1 then 200 else (clK cs (wrBy cs v).toNat).to, (clK cs (wrBy cs v).toNat).from_, decide ((clK cs (wrBy cs v).toNat).to ≠ -1)⟩
def cluK (cs : List Cl) (v : Int) (k : Nat) (h : Hd) : Clu :=
  ⟨v, wrBy cs v, if v = 0 then -1 else (clK cs (wrBy cs v).toNat).from_, h, v, (zoneK cs v (begZ cs v) k).zf, (zoneK cs v (begZ cs v) k).zl, false, (zoneK cs v (begZ cs v) k).some_⟩
def endZ (cs : List Cl) (v : Int) : Cz := zoneK cs v (begZ cs v) cs.length
def cluE (cs : List Cl) (v : Int) (h : Hd) : Clu := { cluK cs v cs.length h with zw := decide ((endZ cs v).zf < (endZ cs v).zl) }
def isV (cs : List Cl) (v : Nat) : Bool := decide (v = 0) || decide (0 ≤ wrBy cs (v : Nat))
@[irreducible] def keyZ (cs : List Cl) : List Nat := (List.range 1001).filter (isV cs)
def zonE (cs : List Cl) (v : Int) : Zon := ⟨v, (endZ cs v).zf, (endZ cs v).zl, decide ((endZ cs v).zf < (endZ cs v).zl)⟩
def zonO (cs : List Cl) (v : Nat) : Option Zon := if (isV cs v && (endZ cs (v : Nat)).some_) = true then some (zonE cs (v : Nat)) else none
def zonL (cs : List Cl) (n : Nat) : List Zon := (List.range n).filterMap (zonO cs)
theorem zonL_succ (cs : List Cl) (n : Nat) : zonL cs (n + 1) = if (isV cs n && (endZ cs (n : Nat)).some_) = true then zonL cs n ++ [zonE cs (n : Nat)] else zonL cs n := by
  unfold zonL
  rw [List.range_succ, List.filterMap_append, List.filterMap_cons, List.filterMap_nil]
  by_cases h : (isV cs n && (endZ cs (n : Nat)).some_) = true
  · rw [if_pos h, show zonO cs n = some (zonE cs (n : Nat)) by unfold zonO; rw [if_pos h]]
  · rw [if_neg h, show zonO cs n = none by unfold zonO; rw [if_neg h]]; simp
theorem zonL_len (cs : List Cl) (n : Nat) : (zonL cs n).length ≤ n := by
  unfold zonL
  exact Nat.le_trans (List.length_filterMap_le _ _) (by simp)
theorem keyZ_mem {cs : List Cl} {v : Nat} : v ∈ keyZ cs ↔ v < 1001 ∧ (v = 0 ∨ 0 ≤ wrBy cs (v : Nat)) := by
  unfold keyZ isV
  rw [List.mem_filter, List.mem_range]; simp
theorem keyZ_sorted (cs : List Cl) : (keyZ cs).Pairwise (· < ·) := by unfold keyZ; exact List.Pairwise.filter _ List.pairwise_lt_range
theorem wrBy_of {cs : List Cl} {i : Nat} (hok : RgOk cs) (hi : i < cs.length) (h1 : (clK cs i).kind = 1) : wrBy cs (clK cs i).arg = (i : Int) := by
  refine ixN_at hi (fun j hj => ?_) (by simp [isWr, h1])
  unfold isWr
  by_cases e : (clK cs j).kind = 1
  · have := hok.one i j hj hi h1 e
    simp [this]
  · simp [e]
theorem wrBy_at {cs : List Cl} {v : Int} (h : 0 ≤ wrBy cs v) : ∃ k : Nat, wrBy cs v = (k : Int) ∧ k < cs.length ∧ (clK cs k).kind = 1 ∧ (clK cs k).arg = v := by
  rcases ixN_cases cs.length (isWr cs v) with ⟨h1, _⟩ | ⟨k, h1, h2, h3, _⟩
  · unfold wrBy at h; omega
  · simp only [isWr, Bool.and_eq_true, decide_eq_true_eq] at h3
    exact ⟨k, h2, h1, h3.1, h3.2⟩
theorem wrBy_zero {cs : List Cl} (hok : RgAll cs) : wrBy cs 0 = -1 := by
  rcases ixN_cases cs.length (isWr cs 0) with ⟨h1, _⟩ | ⟨k, h1, h2, h3, _⟩
  · exact h1
  · simp only [isWr, Bool.and_eq_true, decide_eq_true_eq] at h3
    have := hok.wr k h1 h3.1
    omega
/-- the values that the code has clusters of, in its order -/
def orderZ (cs : List Cl) (k : Nat) : List Int := 0 :: ((List.range k).filter fun i => decide ((clK cs i).kind = 1)).map fun i => (clK cs i).arg
theorem orderZ_succ (cs : List Cl) (k : Nat) : orderZ cs (k + 1) = if (clK cs k).kind = 1 then orderZ cs k ++ [(clK cs k).arg] else orderZ cs k := by
  unfold orderZ
  rw [List.range_succ, List.filter_append, List.map_append]
  split <;> rename_i h <;> simp [h]
theorem orderZ_len (cs : List Cl) (k : Nat) : (orderZ cs k).length ≤ k + 1 := by
  unfold orderZ
  rw [List.length_cons, List.length_map]
  exact Nat.succ_le_succ (Nat.le_trans (List.length_filter_le _ _) (by simp))
theorem orderZ_perm {cs : List Cl} (hok : RgOk cs) : (orderZ cs cs.length).Perm ((keyZ cs).map fun v : Nat => (v : Int)) := by
  refine (List.perm_ext_iff_of_nodup ?_ ?_).2 fun r => ?_
  · unfold orderZ
    rw [List.nodup_cons]
    refine ⟨fun h => ?_, ?_⟩
    · obtain ⟨i, hi, h0⟩ := List.mem_map.1 h
      rw [List.mem_filter, List.mem_range] at hi
      have := hok.wr i hi.1 (of_decide_eq_true hi.2)
      omega
    · rw [List.Nodup, List.pairwise_map]
      have h1 : ((List.range cs.length).filter fun i => decide ((clK cs i).kind = 1)).Pairwise (· < ·) := List.Pairwise.filter _ List.pairwise_lt_range
      refine h1.imp_of_mem fun {a b} ha hb hab he => ?_
      rw [List.mem_filter, List.mem_range] at ha hb
      exact hok.one b a hab hb.1 (of_decide_eq_true hb.2) (of_decide_eq_true ha.2) he
  · rw [List.Nodup, List.pairwise_map]
    exact (keyZ_sorted cs).imp fun {a b} hab he => by omega
  · unfold orderZ
    rw [List.mem_cons, List.mem_map, List.mem_map]
    constructor
    · rintro (rfl | ⟨i, hi, rfl⟩)
      · exact ⟨0, keyZ_mem.2 ⟨by omega, .inl rfl⟩, rfl⟩
      · rw [List.mem_filter, List.mem_range] at hi
        have h3 := of_decide_eq_true hi.2
        have hp := wrBy_of hok hi.1 h3
        have hr := hok.wr i hi.1 h3
        obtain ⟨v, hv⟩ : ∃ v : Nat, (clK cs i).arg = (v : Int) := ⟨(clK cs i).arg.toNat, by omega⟩
        rw [hv] at hp hr ⊢
        exact ⟨v, keyZ_mem.2 ⟨by omega, .inr (by rw [hp]; omega)⟩, rfl⟩
    · rintro ⟨v, hv, rfl⟩
      obtain ⟨_, hv⟩ := keyZ_mem.1 hv
      rcases hv with rfl | hv
      · exact .inl rfl
      · obtain ⟨k, h1, h2, h3, h4⟩ := wrBy_at hv
        exact .inr ⟨k, List.mem_filter.2 ⟨List.mem_range.2 h2, by simpa using h3⟩, h4⟩
theorem keyZ_len {cs : List Cl} (hok : RgOk cs) : (keyZ cs).length ≤ cs.length + 1 := by
  have h1 := (orderZ_perm hok).length_eq
  have h2 := orderZ_len cs cs.length
  rw [List.length_map] at h1
  omega
/-- what the sort gives -/
theorem clus_sorted {cs : List Cl} (hok : RgOk cs) {S L : List Clu} (hL : ∃ H : List Hd, H.length = L.length ∧ L = List.zipWith (cluE cs) (orderZ cs cs.length) H ∧ L.length = (orderZ cs cs.length).length) (hp : S.Perm L) (hs : S.Pairwise fun a b => a.value ≤ b.value) :
    S.map (·.value) = (keyZ cs).map (fun v : Nat => (v : Int)) ∧ ∀ k ∈ S, ∃ h, k = cluE cs k.value h := by
  obtain ⟨H, h1, h2, h3⟩ := hL
  have hv : L.map (·.value) = orderZ cs cs.length := by
    apply List.ext_getElem
    · rw [List.length_map]; exact h3
    intro i hi hj
    rw [List.length_map] at hi
    rw [List.getElem_map]
    subst h2
    rw [List.getElem_zipWith]; rfl
  refine ⟨?_, fun k hk => ?_⟩
  · refine sort_eq (key := id) (((hp.map _).trans (by rw [hv])).trans (orderZ_perm hok)) ?_ ?_
    · rw [List.pairwise_map]; exact hs
    · rw [List.pairwise_map]
      exact (keyZ_sorted cs).imp fun {a b} hab => by show (a : Int) < (b : Int); omega
  · have hk := hp.mem_iff.1 hk
    subst h2
    obtain ⟨i, hi, rfl⟩ := List.mem_iff_getElem.1 hk
    rw [List.getElem_zipWith]
    exact ⟨_, rfl⟩
/-! what can't be -/
def strzB (cs : List Cl) (k : Nat) : Bool := decide ((clK cs k).kind = 2) && (decide ((clK cs k).to ≠ -1) && (decide ((clK cs k).res ≠ 0) && decide (wrBy cs (clK cs k).res < 0)))
def earzB (cs : List Cl) (k : Nat) : Bool := decide ((clK cs k).kind = 2) && (decide ((clK cs k).to ≠ -1) && (decide (0 ≤ wrBy cs (clK cs k).res) && decide ((clK cs k).to < (clK cs (wrBy cs (clK cs k).res).toNat).from_)))
def zoI (Z : List Zon) (i : Nat) : Zon := Z.getD i default
def meetB (a b : Zon) : Bool := decide (a.first < b.last) && decide (b.first < a.last)
def crossB (Z : List Zon) (i k : Nat) : Bool := decide (i < k) && ((zoI Z i).fwd && ((zoI Z k).fwd && meetB (zoI Z i) (zoI Z k)))
def insideB (Z : List Zon) (i k : Nat) : Bool := (zoI Z i).fwd && (!(zoI Z k).fwd && meetB (zoI Z i) (zoI Z k))
def pairsV (Z : List Zon) : Bd :=
  match firstP Z.length (fun _ => Z.length) (crossB Z) with
  | some (i, k) => ⟨4, (zoI Z i).value, (zoI Z k).value⟩
  | none => match firstP Z.length (fun _ => Z.length) (insideB Z) with
    | some (i, k) => ⟨5, (zoI Z i).value, (zoI Z k).value⟩
    | none => ⟨0, 0, 0⟩
def earlyV (cs : List Cl) (n : Nat) : Bd := match firstN n (earzB cs) with | some k => ⟨3, k, wrBy cs (clK cs k).res⟩ | none => ⟨0, 0, 0⟩
def readsV (cs : List Cl) : Bd := match firstN cs.length (strzB cs) with | some k => ⟨1, k, 0⟩ | none => earlyV cs cs.length
def zonesV (cs : List Cl) : Bd := if (readsV cs).kind ≠ 0 then readsV cs else pairsV (zonL cs 1001)
end Go.Proofs.Ytaonijdhmgcbjaa

namespace Go.Proofs.Ytaonijdhmgcbjaa
open Go.RowKit
set_option linter.unusedSectionVars false

section
variable (B0 : Option Addr) (d0 : Nat) (l : List Ev) (w : World) (hl : l.length ≤ 9223372036854775807) (hA : RdEv w B0 l)
include hl hA
set_option maxRecDepth 100000 in
set_option maxHeartbeats 4000000 in
theorem znCalls_any : Calls Try.prog 33 #[.slice B0 l.length d0] w fun e w' => ∃ A c, e = .returned (.tuple #[.slice A (wonceR l).1.length c, .int .i64 (wonceR l).2]) ∧ Own Cl.enc 7 107 w' w.heap.size (.slice A (wonceR l).1.length c) (wonceR l).1 ∧ Below w.heap.size w w' := by
  have h1 := fun T w h1 h2 => callsCode_any T B0 1 d0 [1] l w (by decide) hl h1 h2
  have hw0 := wonceR_err (l := l)
  have hw1 := fun h i hi hb => wonceR_bad (l := l) h (i := i) hi hb
  have hw2 := wonceR_ok (l := l)
  have hall := rgAll_of (l := l)
  obtain ⟨cs, y, z, hcr⟩ : ∃ cs y z, callsR [1] l = (cs, y, z) := ⟨_, _, _, rfl⟩
  rw [hcr] at h1 hw0 hw1 hw2 hall
  dsimp only at h1 hw0 hw1 hw2 hall
  clear hcr
  generalize wonceR l = WR at *
  refine calls_T (S := []) [] Try.func33 rfl Try.ntmps33 (by simp) (Mem.nil _) ?_
  by_cases hz : z = 0
  case neg =>
    have hwr := hw0 hz
    subst hwr
    repeat' (first | ((with_reducible refine TL_mem (S' := [entOwn intEnc 1 3 (some ⟨g, 0, none⟩) 1 [1]]) (fun w hw => Mem.asOwn (enc := intEnc) (M := 1) [1] (Upd.here _ _ _) rfl (fun _ => rfl) (by decide) hw) ?_)) | (refine GO ?_) | (refine GOE ?_; (first | (rintro _ _ ⟨rfl, rfl⟩) | (rintro _ _ ⟨g, rfl, rfl⟩) | (rintro _ _ ⟨A', c', rfl, rfl⟩))) | ((refine GO2 ?_ ?_) <;> intro h <;> (try (repeat (first | with_reducible (replace h := of_decide_eq_true h) | with_reducible (replace h := of_decide_eq_false h) | with_reducible (replace h := bnt h) | with_reducible (replace h := bnf h) | with_reducible (replace h := Int.not_lt.mp h) | with_reducible (replace h := Int.not_le.mp h) | with_reducible (replace h := band_dec h) | with_reducible (replace h := band_decF h) | with_reducible (replace h := bor_dec h) | with_reducible (replace h := bor_decF h)))) <;> (try (exfalso; first | contradiction | omega))) | ((with_reducible (first | apply TD_e2z | apply TD_e3z | apply TL_e | apply TD_e2 | apply TD_e3)); ((with_reducible apply ES_callOwn (f := 39)); exact rfl; (intro w hw; exact h1 (some ⟨g, 0, none⟩) w (hw.ownRd (by first | ((repeat (first | with_reducible exact List.mem_cons_self | with_reducible apply List.mem_cons_of_mem)); done) | (repeat (first | exact List.Mem.head _ | apply List.Mem.tail))) (fun _ => rfl)) (hw.rd rfl hA)); exact rfl); (first | exact rfl | exact ⟨rfl, rfl, rfl⟩); (rintro _ _ ⟨A1, c1, rfl, rfl⟩); (try refine ⟨SUB, ?_⟩)) | fail)
    all_goals first
      | ((refine At_ret Try.results33 rfl (fun w' hw => ?_)); exact ⟨none, 0, rfl, Own.nil _ _, hw.below0 rfl⟩)
      | (exfalso; omega)
  have hfew := (hall hz).few
  subst hz
  repeat' (first | ((with_reducible refine TL_mem (S' := [entOwn intEnc 1 3 (some ⟨g, 0, none⟩) 1 [1]]) (fun w hw => Mem.asOwn (enc := intEnc) (M := 1) [1] (Upd.here _ _ _) rfl (fun _ => rfl) (by decide) hw) ?_)) | (refine GO ?_) | (refine GOE ?_; (first | (rintro _ _ ⟨rfl, rfl⟩) | (rintro _ _ ⟨g, rfl, rfl⟩) | (rintro _ _ ⟨A', c', rfl, rfl⟩))) | ((refine GO2 ?_ ?_) <;> intro h <;> (try (repeat (first | with_reducible (replace h := of_decide_eq_true h) | with_reducible (replace h := of_decide_eq_false h) | with_reducible (replace h := bnt h) | with_reducible (replace h := bnf h) | with_reducible (replace h := Int.not_lt.mp h) | with_reducible (replace h := Int.not_le.mp h) | with_reducible (replace h := band_dec h) | with_reducible (replace h := band_decF h) | with_reducible (replace h := bor_dec h) | with_reducible (replace h := bor_decF h)))) <;> (try (exfalso; first | contradiction | omega))) | ((with_reducible (first | apply TD_e2z | apply TD_e3z | apply TL_e | apply TD_e2 | apply TD_e3)); ((with_reducible apply ES_callOwn (f := 39)); exact rfl; (intro w hw; exact h1 (some ⟨g, 0, none⟩) w (hw.ownRd (by first | ((repeat (first | with_reducible exact List.mem_cons_self | with_reducible apply List.mem_cons_of_mem)); done) | (repeat (first | exact List.Mem.head _ | apply List.Mem.tail))) (fun _ => rfl)) (hw.rd rfl hA)); exact rfl); (first | exact rfl | exact ⟨rfl, rfl, rfl⟩); (rintro _ _ ⟨A1, c1, rfl, rfl⟩); (try refine ⟨SUB, ?_⟩)) | fail)
  all_goals first | (exfalso; omega) | skip
  obtain ⟨gm, rfl⟩ : ∃ x, x = g := ⟨_, rfl⟩
  refine T_loop (X := Nat) (fun k => [(23, .int .i64 (k : Nat)), (22, .int .i64 cs.length), (21, .slice A1 cs.length c1), (7, .map (some gm)), (4, .slice A1 cs.length c1)]) (fun k => [entMap boolV gm (seenM cs k), entOwn Cl.enc 7 107 A1 c1 cs]) (fun k => k ≤ cs.length ∧ ∀ i, i < k → againB cs i = false) (fun k => cs.length - k) 0 ⟨by omega, fun i hi => by omega⟩ (by (repeat (first | exact SubE.nil _ | refine SubE.cons rfl ?_))) (by exact SUBS) ?_
  rintro k ⟨hk, hno⟩
  by_cases hkl : k < cs.length
  · have hck := clK_eq hkl
    have hlk := seenM_look cs (clK cs k).arg k
    have hsk : seenM cs (k + 1) = if (clK cs k).kind = 1 then putM (seenM cs k) (clK cs k).arg true else seenM cs k := rfl
    have hag : againB cs k = (decide ((clK cs k).kind = 1) && ((lookM (seenM cs k) (clK cs k).arg).getD false)) := by unfold againB; rw [hlk]
    rw [hck] at hsk hag
    refine T_own (enc := Cl.enc) (ls := cs) (by first | ((repeat (first | with_reducible exact List.mem_cons_self | with_reducible apply List.mem_cons_of_mem)); done) | (repeat (first | exact List.Mem.head _ | apply List.Mem.tail))) (by omega) ?_
    rintro gC rfl
    clear hlk
    generalize seenM cs k = D at *
    by_cases h1k : cs[k].kind = 1
    · rw [if_pos h1k] at hsk
      rw [decide_eq_true h1k, Bool.true_and] at hag
      by_cases hb : (lookM D cs[k].arg).getD false = true
      · have hwr := hw1 rfl k hkl (by rw [hag]; exact hb)
        subst hwr
        repeat' (first | (refine GO ?_) | (refine GOE ?_; (first | (rintro _ _ ⟨rfl, rfl⟩) | (rintro _ _ ⟨g, rfl, rfl⟩) | (rintro _ _ ⟨A', c', rfl, rfl⟩))) | ((refine GO2 ?_ ?_) <;> intro h <;> (try (repeat (first | with_reducible (replace h := of_decide_eq_true h) | with_reducible (replace h := of_decide_eq_false h) | with_reducible (replace h := bnt h) | with_reducible (replace h := bnf h) | with_reducible (replace h := Int.not_lt.mp h) | with_reducible (replace h := Int.not_le.mp h) | with_reducible (replace h := band_dec h) | with_reducible (replace h := band_decF h) | with_reducible (replace h := bor_dec h) | with_reducible (replace h := bor_decF h)))) <;> (try (exfalso; first | contradiction | omega))) | fail)
        all_goals first
          | ((refine At_ret Try.results33 rfl (fun w' hw => ?_)); exact ⟨none, 0, rfl, Own.nil _ _, hw.below0 rfl⟩)
          | (exfalso; simp_all; done)
      · have hb : (lookM D cs[k].arg).getD false = false := by simpa using hb
        repeat' (first | (refine GO ?_) | (refine GOE ?_; (first | (rintro _ _ ⟨rfl, rfl⟩) | (rintro _ _ ⟨g, rfl, rfl⟩) | (rintro _ _ ⟨A', c', rfl, rfl⟩))) | ((refine GO2 ?_ ?_) <;> intro h <;> (try (repeat (first | with_reducible (replace h := of_decide_eq_true h) | with_reducible (replace h := of_decide_eq_false h) | with_reducible (replace h := bnt h) | with_reducible (replace h := bnf h) | with_reducible (replace h := Int.not_lt.mp h) | with_reducible (replace h := Int.not_le.mp h) | with_reducible (replace h := band_dec h) | with_reducible (replace h := band_decF h) | with_reducible (replace h := bor_dec h) | with_reducible (replace h := bor_decF h)))) <;> (try (exfalso; first | contradiction | omega))) | fail)
        all_goals first
          | (apply At_rounds (k + 1); (case hE => (repeat (first | exact SubE.nil _ | refine SubE.cons rfl ?_))); (case hS => (try dsimp only); rw [hsk]; exact fun w' hw => hw.sel (by (repeat (first | exact Sel.nil _ | (apply Sel.cons; (repeat (first | with_reducible exact Pick.here _ _ | with_reducible apply Pick.there))))))); (case hμ => (try dsimp only); omega); (case hp => exact ⟨hkl, fun i hi => (Nat.lt_succ_iff_lt_or_eq.1 hi).elim (fun e => hno i e) (fun e => by subst e; rw [hag]; exact hb)⟩))
          | (exfalso; simp_all; done)
    · rw [if_neg h1k] at hsk
      rw [decide_eq_false h1k, Bool.false_and] at hag
      repeat' (first | (refine GO ?_) | (refine GOE ?_; (first | (rintro _ _ ⟨rfl, rfl⟩) | (rintro _ _ ⟨g, rfl, rfl⟩) | (rintro _ _ ⟨A', c', rfl, rfl⟩))) | ((refine GO2 ?_ ?_) <;> intro h <;> (try (repeat (first | with_reducible (replace h := of_decide_eq_true h) | with_reducible (replace h := of_decide_eq_false h) | with_reducible (replace h := bnt h) | with_reducible (replace h := bnf h) | with_reducible (replace h := Int.not_lt.mp h) | with_reducible (replace h := Int.not_le.mp h) | with_reducible (replace h := band_dec h) | with_reducible (replace h := band_decF h) | with_reducible (replace h := bor_dec h) | with_reducible (replace h := bor_decF h)))) <;> (try (exfalso; first | contradiction | omega))) | fail)
      all_goals
        apply At_rounds (k + 1)
        case hE => (repeat (first | exact SubE.nil _ | refine SubE.cons rfl ?_))
        case hS => (try dsimp only); rw [hsk]; exact fun w' hw => hw.sel (by (repeat (first | exact Sel.nil _ | (apply Sel.cons; (repeat (first | with_reducible exact Pick.here _ _ | with_reducible apply Pick.there))))))
        case hμ => (try dsimp only); omega
        case hp => exact ⟨hkl, fun i hi => (Nat.lt_succ_iff_lt_or_eq.1 hi).elim (fun e => hno i e) (fun e => by subst e; exact hag)⟩
  · obtain rfl : k = cs.length := by omega
    have hwr := hw2 rfl fun i hi => hno i hi
    subst hwr
    repeat' (first | (refine GO ?_) | (refine GOE ?_; (first | (rintro _ _ ⟨rfl, rfl⟩) | (rintro _ _ ⟨g, rfl, rfl⟩) | (rintro _ _ ⟨A', c', rfl, rfl⟩))) | ((refine GO2 ?_ ?_) <;> intro h <;> (try (repeat (first | with_reducible (replace h := of_decide_eq_true h) | with_reducible (replace h := of_decide_eq_false h) | with_reducible (replace h := bnt h) | with_reducible (replace h := bnf h) | with_reducible (replace h := Int.not_lt.mp h) | with_reducible (replace h := Int.not_le.mp h) | with_reducible (replace h := band_dec h) | with_reducible (replace h := band_decF h) | with_reducible (replace h := bor_dec h) | with_reducible (replace h := bor_decF h)))) <;> (try (exfalso; first | contradiction | omega))) | fail)
    (refine At_ret Try.results33 rfl (fun w' hw => ?_))
    exact ⟨A1, c1, rfl, hw.ownOut rfl (by first | ((repeat (first | with_reducible exact List.mem_cons_self | with_reducible apply List.mem_cons_of_mem)); done) | (repeat (first | exact List.Mem.head _ | apply List.Mem.tail))), hw.below0 rfl⟩
end
end Go.Proofs.Ytaonijdhmgcbjaa

namespace Go.Proofs.Ytaonijdhmgcbjaa
open Go.RowKit

/-- S holds what S1 says, in any order; R is left -/
inductive Pull : List Ent → List Ent → List Ent → Prop
  | nil (S : List Ent) : Pull S [] S
  | cons {S R T R' : List Ent} {e : Ent} (h : Pick S e R) (t : Pull R T R') : Pull S (e :: T) R'
theorem Pull.mem : ∀ {S T R : List Ent}, Pull S T R → ∀ f, f ∈ T ++ R ↔ f ∈ S
  | _, _, _, .nil _, f => by simp
  | _, _, _, .cons h t, f => by
    obtain ⟨A, B, rfl, rfl⟩ := h.form
    have := t.mem f
    rw [List.cons_append, List.mem_cons, this]
    simp only [List.mem_append, List.mem_cons]
    constructor
    · rintro (h | h | h)
      · exact .inr (.inl h)
      · exact .inl h
      · exact .inr (.inr h)
    · rintro (h | h | h)
      · exact .inr (.inl h)
      · exact .inl h
      · exact .inr (.inr h)
section
variable {C : Ctx} {w : World} {S T R : List Ent}
theorem Mem.pull (hw : Mem C w S) (h : Pull S T R) : Mem C w (T ++ R) := by
  induction h with
  | nil S => exact hw
  | @cons S R T R' e h t ih =>
    have h1 := hw.pick h
    have hap := List.pairwise_cons.1 h1.apart
    have h2 := ih (h1.sub (List.sublist_cons_self _ _))
    refine ⟨h2.keeps, fun f hf => ?_, ?_⟩
    · rcases List.mem_cons.1 hf with rfl | hf
      · exact h1.holds f (by simp)
      · exact h2.holds f hf
    · exact List.pairwise_cons.2 ⟨fun f hf => hap.1 f ((t.mem f).1 hf), h2.apart⟩
end
/-- one list behind the other, laid flat -/
inductive AppL : List Ent → List Ent → List Ent → Prop
  | nil (R : List Ent) : AppL [] R R
  | cons {T R S2 : List Ent} (e : Ent) (h : AppL T R S2) : AppL (e :: T) R (e :: S2)
theorem AppL.eq {T R S2 : List Ent} (h : AppL T R S2) : T ++ R = S2 := by
  induction h with
  | nil R => rfl
  | cons e _ ih => rw [List.cons_append, ih]
section
variable {P : Program} {C : Ctx} {Q : Exit → Act → World → Prop} {E : Slots} {S S1 S1' R S2 : List Ent}
variable {d ty : Nat} {ps : String} {af : Array Edge} {g0 : Option (Nat × Bool)} {f : Nat}
end
end Go.Proofs.Ytaonijdhmgcbjaa

namespace Go.Proofs.Ytaonijdhmgcbjaa
open Go.RowKit

theorem TL_fact {P : Program} {C : Ctx} {Q : Exit → Act → World → Prop} {E : Slots} {S : List Ent} {l rest : List Oper} {p : Prop} (hS : ∀ w, Mem C w S → p) (h : p → TL P C l Q rest E S) : TL P C l Q rest E S :=
  ⟨fun a w ha hw => (h (hS w hw)).run a w ha hw⟩
section
variable {C : Ctx} {w : World} {S S1 S' : List Ent} {α : Type} {enc : α → List Value} {M e : Nat} {hs : List Hd} {rows : List (List α)} {l : List α} {A : Option Addr} {c j : Nat}
end
end Go.Proofs.Ytaonijdhmgcbjaa

namespace Go.Proofs.Ytaonijdhmgcbjaa
open Go.RowKit
set_option linter.unusedSectionVars false

instance : Inhabited Hd := ⟨⟨none, 0, 0⟩⟩
section
variable {P : Program} {C : Ctx} {S : List Ent} {α : Type} {enc : α → List Value} {M e g c j off s : Nat} {ls : List α} {x : α} {v : Value}
theorem Lds.setAt [OneCell P s] (hm : entOwn enc M e (some ⟨g, 0, none⟩) c (ls.set j x) ∈ S) (hM : ∀ x, (enc x).length = M) (hj : j < ls.length) (hv : (enc x)[off]? = some v) : Lds P C S s ⟨g, j * M + off, none⟩ v :=
  Lds.own hm hM (by simpa using hj) (by rw [List.getElem_set_self]; exact hv)
theorem Lds.setAt0 [OneCell P s] (hm : entOwn enc M e (some ⟨g, 0, none⟩) c (ls.set j x) ∈ S) (hM : ∀ x, (enc x).length = M) (hj : j < ls.length) (hv : (enc x)[0]? = some v) : Lds P C S s ⟨g, j * M, none⟩ v :=
  Lds.own0 hm hM (by simpa using hj) (by rw [List.getElem_set_self]; exact hv)
end
end Go.Proofs.Ytaonijdhmgcbjaa

namespace Go.Proofs.Ytaonijdhmgcbjaa
open Go.RowKit
set_option linter.unusedSectionVars false

theorem Clu.enc_mk (v w f : Int) (ha : Option Addr) (hn hc : Nat) (a b c : Int) (x y : Bool) : Clu.enc ⟨v, w, f, ⟨ha, hn, hc⟩, a, b, c, x, y⟩ = [.int .i64 v, .int .i64 w, .int .i64 f, .slice ha hn hc, .int .i64 a, .int .i64 b, .int .i64 c, .bool x, .bool y] := rfl
section
variable {P : Program} {C : Ctx} {E : Slots} {S S' : List Ent} {g s t ty : Nat} {x y : Operand} {ps : String} {af : Array Edge} {g0 : Option (Nat × Bool)}
/-- four cells stored into the middle of a block that is known whole -/
theorem ES_storeMid4 [hs : AggOf P s 4] {o : Nat} {cs cs' : Array Value} {u0 u1 u2 u3 : Value} (hx : evo E x = some (.pointer (some ⟨g, o, none⟩))) (hy : evo E y = some (.agg #[u0, u1, u2, u3])) (hc : cs' = (((cs.set! o u0).set! (o + 1) u1).set! (o + 2) u2).set! (o + 3) u3)
    (ho : (decide (o + 4 ≤ cs.size) && [u0, u1, u2, u3].all (·.oneCell')) = true) (hu : Upd S (entBlk g t cs) (entBlk g t cs') S') :
    ES P C E S ⟨none, .store s x y, ty, ps, af, g0⟩ (fun E' T => E' = E ∧ T = S') := by
  rw [Bool.and_eq_true, decide_eq_true_eq] at ho
  obtain ⟨ho, h1⟩ := ho
  refine (ES_skip (fun T => T = S') (fun a w ha hw => ?_)).weak (by rintro _ _ ⟨rfl, rfl⟩; exact ⟨rfl, rfl⟩)
  have hb : Blk w g t cs := (hw.holds _ hu.mem).1
  have hst := run_storeCells_at P g o t [u0, u1, u2, u3] 0 cs w hb (by simpa using ho) (fun u hu => List.all_eq_true.1 h1 u hu)
  have hce : (cs.toList.take (o + 0) ++ [u0, u1, u2, u3] ++ cs.toList.drop (o + 0 + [u0, u1, u2, u3].length)).toArray = cs' := by
    subst hc
    apply Array.ext'
    apply List.ext_getElem?
    intro i
    simp only [Array.set!_eq_setIfInBounds, Array.toList_setIfInBounds, Nat.add_zero, List.length_cons, List.length_nil, List.getElem?_set, List.length_set, Array.length_toList]
    have l1 : (cs.toList.take o).length = o := by rw [List.length_take, Array.length_toList]; omega
    rw [List.append_assoc, List.getElem?_append, l1]
    by_cases h1 : i < o
    · rw [if_pos h1, List.getElem?_take, if_pos h1, if_neg (by omega), if_neg (by omega), if_neg (by omega), if_neg (by omega)]
    · rw [if_neg h1, List.getElem?_append]
      by_cases h2 : i - o < 4
      · rw [if_pos (by simpa using h2)]
        obtain ⟨d, hd⟩ : ∃ d, i = o + d := ⟨i - o, by omega⟩
        subst hd
        have hd4 : d < 4 := by omega
        rw [show o + d - o = d by omega]
        rcases d with _ | _ | _ | _ | d
        · rw [if_neg (by omega), if_neg (by omega), if_neg (by omega), if_pos (by omega), if_pos (by omega)]; rfl
        · rw [if_neg (by omega), if_neg (by omega), if_pos (by omega), if_pos (by omega)]; rfl
        · rw [if_neg (by omega), if_pos (by omega), if_pos (by omega)]; rfl
        · rw [if_pos (by omega), if_pos (by omega)]; rfl
        · omega
      · rw [if_neg (by simpa using h2), List.getElem?_drop, if_neg (by omega), if_neg (by omega), if_neg (by omega), if_neg (by omega)]
        simp only [List.length_cons, List.length_nil]
        rw [show o + (0 + 1 + 1 + 1 + 1) + (i - o - (0 + 1 + 1 + 1 + 1)) = i by omega]
  rw [hce] at hst
  have hcs : cs'.size = cs.size := by rw [hc]; simp
  refine ⟨w.setRow g cs', S', ?_, ?_, rfl⟩
  · have hsz : (Value.agg #[u0, u1, u2, u3]).cells.size = 4 := rfl
    simp only [execOp, ha.evo hx, ha.evo hy, Instr.storeAt, Instr.sureAddr, storeVar, Sem.run_bind, Sem.run_pure, Result.andThen_ok, hs.size w, hsz]
    simp [Value.cells, hst]
  · exact hw.upd hu (Keeps.setRow w g cs') (by simp [entBlk]) (fun k hk => ⟨by cases hk; simpa using hb.lt, .inl hk⟩) (hb.row cs')
theorem ES_storeZone [hs : AggOf P s 4] {a0 a1 a2 a3 b0 b1 b2 b3 a8 u0 u1 u2 u3 : Value} (hx : evo E x = some (.pointer (some ⟨g, 4, none⟩))) (hy : evo E y = some (.agg #[u0, u1, u2, u3])) (hu : Upd S (entBlk g t #[a0, a1, a2, a3, b0, b1, b2, b3, a8]) (entBlk g t #[a0, a1, a2, a3, u0, u1, u2, u3, a8]) S') (h1 : [u0, u1, u2, u3].all (·.oneCell') = true) :
    ES P C E S ⟨none, .store s x y, ty, ps, af, g0⟩ (fun E' T => E' = E ∧ T = S') :=
  ES_storeMid4 hx hy rfl (by rw [h1]; rfl) hu
end
/-- the clusters ahead of their reads -/
def begL (cs : List Cl) (k : Nat) : List Clu := (orderZ cs k).map fun v => cluK cs v 0 ⟨none, 0, 0⟩
theorem begL_len (cs : List Cl) (k : Nat) : (begL cs k).length = (orderZ cs k).length := by unfold begL; rw [List.length_map]
theorem begL_zero {cs : List Cl} (hok : RgAll cs) : begL cs 0 = [⟨0, -1, -1, ⟨none, 0, 0⟩, 0, -1, -1, false, false⟩] := by
  show [cluK cs 0 0 ⟨none, 0, 0⟩] = _
  unfold cluK zoneK begZ
  rw [wrBy_zero hok]; rfl
theorem begL_succ {cs : List Cl} (hok : RgOk cs) {k : Nat} (hk : k < cs.length) : begL cs (k + 1) = if (clK cs k).kind = 1 then begL cs k ++ [⟨(clK cs k).arg, (k : Int), (clK cs k).from_, ⟨none, 0, 0⟩, (clK cs k).arg, if (clK cs k).to = -1 then 200 else (clK cs k).to, (clK cs k).from_, false, !decide ((clK cs k).to = -1)⟩] else begL cs k := by
  unfold begL
  rw [orderZ_succ]
  split
  · rename_i h1
    rw [List.map_append, List.map_cons, List.map_nil]
    have hw := wrBy_of hok hk h1
    have ha := hok.wr k hk h1
    unfold cluK zoneK begZ
    rw [hw, Int.toNat_natCast, if_neg (by omega), if_neg (by omega)]
    simp only [ne_eq, decide_not]
  · rfl
end Go.Proofs.Ytaonijdhmgcbjaa

namespace Go.Proofs.Ytaonijdhmgcbjaa
open Go.RowKit Go.Shelf Go.Lib Go.Sort

theorem flatK_list {α : Type} [Inhabited α] {enc : α → List Value} {k : Nat} (hk : ∀ x, (enc x).length = k) (d : Array α) : (flatK enc k d).toList = d.toList.flatMap enc := by
  apply List.ext_getElem?
  intro t
  by_cases ht : t < d.size * k
  · have k0 : 0 < k := by
      rcases Nat.eq_zero_or_pos k with h | h
      · subst h; simp at ht
      · exact h
    have hq : t / k < d.size := (Nat.div_lt_iff_lt_mul k0).2 ht
    have hr : t % k < k := Nat.mod_lt _ k0
    have h2 := flat_at hk d.toList (t / k) (by simpa using hq) (t % k) hr
    rw [Nat.div_add_mod'] at h2
    rw [h2]
    have h3 := get_flatK enc k d t ht
    have h4 : (flatK enc k d).toList[t]? = some ((flatK enc k d)[t]!) := by
      rw [getElem!_pos _ t (by simpa using ht), Array.getElem?_toList]
      exact Array.getElem?_eq_getElem _
    rw [h4, h3]
    have e : d[t / k]! = d.toList[t / k]'(by simpa using hq) := by rw [getElem!_pos d _ hq]; simp
    have hl : t % k < (enc (d.toList[t / k]'(by simpa using hq))).length := by rw [hk]; exact hr
    rw [e, getElem!_pos (enc (d.toList[t / k]'(by simpa using hq))) (t % k) hl]
    exact (List.getElem?_eq_getElem hl).symm
  · rw [List.getElem?_eq_none (by simp; omega), List.getElem?_eq_none (by rw [flat_len hk]; simp; omega)]
theorem putRowK_heap {α : Type} [Inhabited α] {enc : α → List Value} {k : Nat} {w : World} {g n : Nat} {d : Array α} {os : Array Obj} {cur : Array Value} {e : TypeId} {tg : Nat × Nat} (hg : w.heap[g]? = some (.cells cur e tg)) :
    (sortWorldK enc k w g 0 n d os).heap[g]? = some (.cells (putCells id 0 (flatK enc k d) cur) e tg) := by
  have hlt : g < w.heap.size := (Array.getElem?_eq_some_iff.1 hg).1
  show ((w.heap.modify g (onCells (putCells id 0 (flatK enc k d)))) ++ os)[g]? = _
  rw [Array.getElem?_append_left (by simpa using hlt), Array.getElem?_modify, if_pos rfl, hg]
  rfl
theorem putRowK_keeps {α : Type} [Inhabited α] {enc : α → List Value} {k : Nat} {w : World} {g n : Nat} {d : Array α} {os : Array Obj} : Keeps [g] w (sortWorldK enc k w g 0 n d os) := by
  refine ⟨rfl, rfl, rfl, ?_, fun j hj hn => ?_⟩
  · show w.heap.size ≤ ((w.heap.modify g _) ++ os).size
    simp
  · show ((w.heap.modify g _) ++ os)[j]? = _
    rw [Array.getElem?_append_left (by simpa using hj), Array.getElem?_modify, if_neg (fun e => hn (by simp [e]))]
theorem take_putCells {v cur : Array Value} (h : v.size ≤ cur.size) : (putCells id 0 v cur).toList.take v.size = v.toList := by
  apply List.ext_getElem?
  intro t
  rw [List.getElem?_take]
  by_cases ht : t < v.size
  · rw [if_pos ht, Array.getElem?_toList]
    unfold putCells
    rw [Array.getElem?_mapIdx, Array.getElem?_eq_getElem (by omega)]
    simp only [Option.map_some, Nat.zero_le, Nat.zero_add, true_and, Nat.sub_zero, id, ht, if_true]
    rw [getElem!_pos v t ht, Array.getElem?_toList, Array.getElem?_eq_getElem ht]
  · rw [if_neg ht, List.getElem?_eq_none (by simp; omega)]
/-- what the sort makes of a list -/
abbrev SortTo {α : Type} (cf : α → α → Int) (ls : List α) := {S : List α // S.Perm ls ∧ S.Pairwise fun a b => ¬ cf b a < 0}
section
variable {P : Program} {ρ : Ren} {α : Type} [Inhabited α] (L : SlLaysF0.n6 P ρ) {enc : α → List Value} {k et g : Nat} {cb : Array Value} (aE : ∀ w, (isAgg (ρ.t 24)).run P w = .ok true w) (zE : ∀ w, (Go.sizeOf (ρ.t 24)).run P w = .ok k w)
  (hk : ∀ x, (enc x).length = k) (h1 : ∀ x, ∀ v ∈ enc x, v.oneCell' = true) (cf : α → α → Int) (hO : SWO (ltOf cf)) (eg : ∀ args w, (callFunc g args).run P w = .ok (.enter g args) w)
  (hcmp : ∀ (x y : α) (W : World), Calls P g (#[.agg (enc x).toArray, .agg (enc y).toArray] ++ cb) W fun e w' => e = .returned (.int .i64 (cf x y)) ∧ ∃ q os', w' = grow (W.drewN q) os')
include L aE zE hk h1 hO eg hcmp
theorem sort_mem (A : Option Addr) (c : Nat) (ls : List α) (w : World) (ho : Own enc k et w 0 (.slice A ls.length c) ls) (hsz : ls.length < 4611686018427387904) :
    Calls P (ρ.f 6) #[.slice A ls.length c, .func (.func g) #[] cb] w fun e w' => ∃ x : SortTo cf ls, e = .returned (.tuple #[]) ∧ Mem ⟨0, blks [entOwn enc k et A c ls], w⟩ w' [entOwn enc k et A c x.1] := by
  have hbase : Mem ⟨0, blks [entOwn enc k et A c ls], w⟩ w [entOwn enc k et A c ls] := by
    refine ⟨Keeps.refl _ _, fun e he => ?_, by simp⟩
    rw [List.mem_singleton] at he
    subst he
    exact ⟨ho, fun g hg => ⟨(World.ownsRow.lt ho g hg).2, .inl (by simp [blks, (entOwn enc k et A c ls).hfin, hg])⟩⟩
  rcases Nat.eq_zero_or_pos ls.length with h0 | hpos
  · obtain rfl : ls = [] := List.length_eq_zero_iff.1 h0
    refine (AnyF.slices_SortFunc_none { L with } A c (.func (.func g) #[] cb) w).mono ?_
    rintro e w' ⟨rfl, rfl⟩
    exact ⟨⟨[], List.Perm.refl _, .nil⟩, rfl, hbase⟩
  rcases ho.2 with ⟨hv, h0⟩ | ⟨gg, cap, cur, hv, hbb, hg, hnc, hcm, hcs, htake⟩
  · omega
  simp only [Value.slice.injEq] at hv
  obtain ⟨rfl, -, rfl⟩ := hv
  have hlt : gg < w.heap.size := (Array.getElem?_eq_some_iff.1 hg).1
  have hfl := flat_len hk ls
  have hle : ls.length * k ≤ cur.size := by rw [hcs]; exact Nat.mul_le_mul_right k hnc
  have hH : HoldsK enc k w gg 0 ls.toArray := by
    intro j hj
    rw [size_flatK] at hj
    simp only [List.size_toArray] at hj
    have hf : (flatK enc k ls.toArray).toList = ls.flatMap enc := flatK_list hk _
    have hjt : cur[j]? = some ((flatK enc k ls.toArray)[j]!) := by
      have e1 : (ls.flatMap enc)[j]? = cur[j]? := by
        rw [← htake, List.getElem?_take, if_pos hj, Array.getElem?_toList]
      rw [← e1, ← hf, Array.getElem?_toList, getElem!_pos _ j (by simpa using hj)]
      exact Array.getElem?_eq_getElem _
    refine ⟨?_, ?_⟩
    · simp only [World.cell?, hg, Nat.zero_add, id]
      exact hjt
    · simp [World.frozen?, hg]
  have hcl : CmpLays P g cb enc k cf gg 0 ls.toArray.size w := fun m os dk _ x y => hcmp x y _
  refine (AnyQ.slices_SortFunc L k aE zE enc hk h1 cf hO g cb gg 0 c ls.toArray w eg hcl hH hlt (by simpa using hsz)).mono ?_
  rintro e w' ⟨rfl, d', n, os, hperm, hsort, rfl⟩
  obtain ⟨p1, p2, p3⟩ := hperm
  simp only [List.size_toArray] at p1 p3 hsort
  have hd : (d'.extract 0 ls.length).toList = d'.toList := by rw [← p1]; simp
  have hl : (ls.toArray.extract 0 ls.length).toList = ls := by simp
  rw [hd, hl] at p3
  have hdl : d'.toList.length = ls.length := by simpa using p1
  refine ⟨⟨d'.toList, p3, ?_⟩, rfl, ?_⟩
  · rw [List.pairwise_iff_getElem]
    intro i j hi hj hij
    have := hsort i j (by omega) hij (by omega)
    rw [getElem!_pos d' j (by simpa using hj), getElem!_pos d' i (by simpa using hi)] at this
    simpa [ltOf] using this
  · refine hbase.upd (Upd.here _ _ _) putRowK_keeps (fun q hq => ?_) (fun q hq => ?_) ?_
    · rw [List.mem_singleton] at hq
      subst hq
      simp [entOwn, Value.ownBlock]
    · have hq' : some gg = some q := hq
      cases hq'
      exact ⟨Nat.lt_of_lt_of_le hlt (putRowK_keeps (enc := enc)).size, .inl rfl⟩
    · show Own enc k et _ 0 (.slice (some ⟨gg, 0, none⟩) d'.toList.length c) d'.toList
      refine ⟨flat_len hk _, .inr ⟨gg, c, _, by rw [hdl], Nat.zero_le _, putRowK_heap hg, by rw [hdl]; exact hnc, hcm, by simp [putCells, hcs], ?_⟩⟩
      rw [← flatK_list hk, ← take_putCells (v := flatK enc k d') (cur := cur) (by rw [size_flatK, p1]; exact hle), size_flatK, p1, hdl]
end
section
variable {P : Program} {ρ : Ren} {α : Type} (L : SlLaysF0.n6 P ρ) {enc : α → List Value} {k et g : Nat} {cb : Array Value} (aE : ∀ w, (isAgg (ρ.t 24)).run P w = .ok true w) (zE : ∀ w, (Go.sizeOf (ρ.t 24)).run P w = .ok k w)
  (hk : ∀ x, (enc x).length = k) (h1 : ∀ x, ∀ v ∈ enc x, v.oneCell' = true) (cf : α → α → Int) {p : α → Prop} [Inhabited {x // p x}] (hO : SWO (ltOf fun x y : {x // p x} => cf x.1 y.1)) (eg : ∀ args w, (callFunc g args).run P w = .ok (.enter g args) w)
  (hcmp : ∀ (x y : α) (W : World), p x → p y → Calls P g (#[.agg (enc x).toArray, .agg (enc y).toArray] ++ cb) W fun e w' => e = .returned (.int .i64 (cf x y)) ∧ ∃ q os', w' = grow (W.drewN q) os')
include L aE zE hk h1 hO eg hcmp
end
end Go.Proofs.Ytaonijdhmgcbjaa
