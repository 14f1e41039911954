/- Lemmas for the walks (Tp0, Ta1, Law, Order1, Order2, Order3, Reach, Order4, OrdR, OrdL). No condition. -/
import Derived.Test.YtjdckepbihcgfaaGreatDoorG08
import Derived.Test.YtjdckepbihcgfaaGreatDoorG01
import Derived.Test.YtjdckepbihcgfaaGreatDoorG14
import Derived.Test.YtjdckepbihcgfaaGreatDoorG15
import Derived.Test.YtjdckepbihcgfaaGreatDoorRows
import Derived.ProofKit
import Derived.Deep.Slices
import Derived.Deep.Fields
import Derived.Lib.SmallJoins
import Derived.ChangeSlices
import Derived.RegionTactic
import Derived.BigRegion
import Derived.Laws.BitsAllLaws
import Derived.Laws.ShiftsVarLaws
import Derived.Deep.MidRow
import Derived.Laws.ResultCell
import Derived.Test.YtjdckepbihcgfaaGreatDoorG04
import Derived.Test.YtjdckepbihcgfaaGreatDoorG06
set_option linter.unusedSimpArgs false
set_option linter.unusedVariables false
set_option linter.unusedSectionVars false
set_option linter.unnecessarySimpa false
namespace Go.Proofs.YtjdckepbihcgfaaGreatDoor
open Go.RowKit
set_option linter.unusedSectionVars false

section
variable (A : Option Addr) (c : Nat) (l : List Int) (w : World) (hl : l.length ≤ 100) (hA : RdInt w A l)
include hl hA
set_option maxRecDepth 100000 in
theorem ok_any : Calls Tryz.prog 14 #[.slice A l.length c] w fun e w' => e = .returned (.bool (decide (∀ x ∈ l, x = 0))) ∧ Below w.heap.size w w' := by
  refine calls_T (S := []) [] Tryz.func14 rfl Tryz.ntmps14 (by simp) (Mem.nil _) ?_
  repeat' (first | ((first | with_reducible (first | apply TL_q | apply TD_q0 | apply TD_q1 | apply TD_q2 | apply TD_q3) | ((with_reducible (first | apply TD_q0y | apply TD_q1y)); exact rfl; exact rfl; (with_reducible exact rfl))); (first | ((with_reducible apply QS_load); exact rfl; exact Lds.rd1 (enc := intEnc) hA (by simp) hkl rfl) | exact QS.auto); exact rfl) | refine GO ?_ | (refine GOE ?_; (first | rintro _ _ ⟨rfl, rfl⟩ | rintro _ _ ⟨g, rfl, rfl⟩ | rintro _ _ ⟨A', c', rfl, rfl⟩)) | (refine GO2 ?_ ?_ <;> (refine Zs ?_; intro h; try exact Zx)) | fail)
  refine T_loop (X := Nat) (fun x => [(7, .int .i64 (x : Nat)), (6, .int .i64 l.length), (5, .slice A l.length c)]) (fun _ => []) (fun x => x ≤ l.length ∧ ∀ j (h : j < l.length), j < x → l[j] = 0) (fun x => l.length - x) 0 ⟨by omega, fun j _ h => by omega⟩ Ze (fun _ hw => hw.sel Zl) ?_
  rintro k ⟨hk, hz⟩
  by_cases hkl : k < l.length
  · obtain ⟨b, o, rfl, _⟩ := RdE.open hA (by omega)
    by_cases h0 : l[k] = 0
    · repeat' (first | ((first | with_reducible (first | apply TL_q | apply TD_q0 | apply TD_q1 | apply TD_q2 | apply TD_q3) | ((with_reducible (first | apply TD_q0y | apply TD_q1y)); exact rfl; exact rfl; (with_reducible exact rfl))); (first | ((with_reducible apply QS_load); exact rfl; exact Lds.rd1 (enc := intEnc) hA (by simp) hkl rfl) | exact QS.auto); exact rfl) | refine GO ?_ | (refine GOE ?_; (first | rintro _ _ ⟨rfl, rfl⟩ | rintro _ _ ⟨g, rfl, rfl⟩ | rintro _ _ ⟨A', c', rfl, rfl⟩)) | (refine GO2 ?_ ?_ <;> (refine Zs ?_; intro h; try exact Zx)) | fail)
      all_goals first | (exfalso; contradiction) | skip
      apply At_rounds (k + 1)
      (case hE => exact Ze)
      (case hS => exact fun w' hw => hw.sel Zl)
      (case hμ => omega)
      (case hp => exact ⟨by omega, fun j hj h => by
        rcases Nat.lt_or_ge j k with h' | h'
        · exact hz j hj h'
        · obtain rfl : j = k := by omega
          exact h0⟩)
    · have hd : decide (∀ x ∈ l, x = 0) = false := decide_eq_false fun h => h0 (h _ (List.getElem_mem _))
      rw [hd]
      repeat' (first | ((first | with_reducible (first | apply TL_q | apply TD_q0 | apply TD_q1 | apply TD_q2 | apply TD_q3) | ((with_reducible (first | apply TD_q0y | apply TD_q1y)); exact rfl; exact rfl; (with_reducible exact rfl))); (first | ((with_reducible apply QS_load); exact rfl; exact Lds.rd1 (enc := intEnc) hA (by simp) hkl rfl) | exact QS.auto); exact rfl) | refine GO ?_ | (refine GOE ?_; (first | rintro _ _ ⟨rfl, rfl⟩ | rintro _ _ ⟨g, rfl, rfl⟩ | rintro _ _ ⟨A', c', rfl, rfl⟩)) | (refine GO2 ?_ ?_ <;> (refine Zs ?_; intro h; try exact Zx)) | fail)
      all_goals first | (exfalso; contradiction) | skip
      (refine At_ret Tryz.results14 rfl (fun w' hw => ?_))
      exact ⟨rfl, hw.below0 rfl⟩
  · have hd : decide (∀ x ∈ l, x = 0) = true := decide_eq_true fun x hx => by
      obtain ⟨j, hj, rfl⟩ := List.mem_iff_getElem.1 hx
      exact hz j hj (by omega)
    rw [hd]
    repeat' (first | ((first | with_reducible (first | apply TL_q | apply TD_q0 | apply TD_q1 | apply TD_q2 | apply TD_q3) | ((with_reducible (first | apply TD_q0y | apply TD_q1y)); exact rfl; exact rfl; (with_reducible exact rfl))); (first | ((with_reducible apply QS_load); exact rfl; exact Lds.rd1 (enc := intEnc) hA (by simp) hkl rfl) | exact QS.auto); exact rfl) | refine GO ?_ | (refine GOE ?_; (first | rintro _ _ ⟨rfl, rfl⟩ | rintro _ _ ⟨g, rfl, rfl⟩ | rintro _ _ ⟨A', c', rfl, rfl⟩)) | (refine GO2 ?_ ?_ <;> (refine Zs ?_; intro h; try exact Zx)) | fail)
    all_goals first | (exfalso; omega) | skip
    (refine At_ret Tryz.results14 rfl (fun w' hw => ?_))
    exact ⟨rfl, hw.below0 rfl⟩
end
end Go.Proofs.YtjdckepbihcgfaaGreatDoor

namespace Go.Proofs.YtjdckepbihcgfaaGreatDoor
open Go.RowKit

/-- all call ahead of any answer, each once -/
structure AtOnce (cs : List Cl) : Prop where
  from_ : ∀ i (h : i < cs.length), cs[i].from_ = (i : Int)
  who : ∀ i j (hi : i < j) (hj : j < cs.length), cs[i].who ≠ cs[j].who
  to : ∀ i (h : i < cs.length), cs[i].to = -1 ∨ (cs.length : Int) ≤ cs[i].to
theorem relN_none {R : Nat → Nat → Bool} {n : Nat} (h : ∀ i j, i < n → j < n → R i j = false) : relN R n = fun _ => 0 := by
  funext i
  apply Nat.eq_of_testBit_eq
  intro j
  rw [relN_bit, Nat.zero_testBit]
  by_cases hi : i < n
  · by_cases hj : j < n
    · rw [h i j hi hj, decide_eq_true hi, decide_eq_true hj]; rfl
    · rw [decide_eq_false hj, Bool.false_and, Bool.and_false]
  · rw [decide_eq_false hi, Bool.false_and]
theorem once_ahead {cs : List Cl} (h : AtOnce cs) : relAhead cs = fun _ => 0 := relN_none fun i j hi hj => by
  unfold aheadP
  rw [clD hi, clD hj, h.from_ j hj]
  rcases h.to i hi with h1 | h1
  · rw [decide_eq_true h1]; rfl
  · rw [decide_eq_false (show ¬ cs[i].to < (j : Int) by omega), Bool.and_false]
theorem once_people {cs : List Cl} (h : AtOnce cs) : relPeople cs = fun _ => 0 := relN_none fun i j hi hj => by
  unfold peopleP
  rw [clD hi, clD hj]
  by_cases e : i < j
  · rw [decide_eq_false (h.who i j e hj)]; rfl
  · rw [decide_eq_false e, Bool.and_false]
theorem once_calm {cs : List Cl} (h : AtOnce cs) : relCalm cs = fun _ => 0 := relN_none fun i j hi hj => by
  unfold calmP
  refine decide_eq_false fun hlt => ?_
  unfold calmN at hlt
  obtain ⟨c, h1, h2, h3⟩ := calmTo_lt cs hlt
  rw [clD hi, h.from_ i hi] at h1
  rw [clD hj, h.from_ j hj] at h2
  have := calmAt_false (cs := cs) (a := (c : Int)) hi (by rw [clD hi, h.from_ i hi]; omega) (by
    rw [clD hi]
    rcases h.to i hi with h4 | h4
    · exact .inl h4
    · exact .inr (by omega))
  rw [this] at h3; cases h3
theorem once_find {ts : List Int} {l : List Ev} (h : (fewS ts l).2 = 0 → AtOnce (fewS ts l).1) : findS ts l relPeople = findS ts l relAhead ∧ findS ts l relCalm = findS ts l relAhead := by
  unfold findS
  by_cases h0 : (fewS ts l).2 = 0
  · have h1 := h h0
    rw [if_pos h0, if_pos h0, if_pos h0, once_ahead h1, once_people h1, once_calm h1]
    exact ⟨rfl, rfl⟩
  · rw [if_neg h0, if_neg h0, if_neg h0]
    exact ⟨rfl, rfl⟩
end Go.Proofs.YtjdckepbihcgfaaGreatDoor

namespace Go.Proofs.YtjdckepbihcgfaaGreatDoor
open Go.ChangeShapes Go.WideShapes Go.ChangeAt Go.RowKit Go.Deep

section
variable {H : Type} {enc : TypeId × Value → H} {P : Program}

/-- arguments read on as they read, where what was there is as it was -/
theorem trodAll_kept (hl : laidOutB P = true) {W W' : World} (hb : Below W.heap.size W W') {sp : Nat → Bool} :
    ∀ {ts : List TypeId} {vs : List Value} {ds : List (DataW H)} {p : List MemPlace}, (∀ t ∈ ts, P.readableRec t = true ∧ t < P.types.size) → (∀ x ∈ p, x.block < W.heap.size) → (∀ x ∈ p, sp x.block = true) →
      DataW.TrodAll enc P W 0 (fun _ => true) true ts vs ds p → DataW.TrodAll enc P W' 0 sp true ts vs ds p
  | [], _, _, _, _, _, _, h => by
    obtain ⟨rfl, rfl, rfl⟩ := trodAll_nil h
    exact trodAll_mk0
  | t :: ts, _, _, _, ht, hp, hs, h => by
    obtain ⟨v, vs, d, ds, a, b, rfl, rfl, rfl, h1, h2⟩ := trodAll_cons h
    obtain ⟨hr, hrow⟩ := ht t (List.mem_cons_self ..)
    refine ⟨a, b, WideElems.Trod_stays hl hr hrow h1 (fun x hx => hb.same (hp x (List.mem_append_left _ hx))) (fun x hx => hs x (List.mem_append_left _ hx)), ?_, rfl⟩
    exact trodAll_kept hl hb (fun t' h' => ht t' (List.mem_cons_of_mem _ h')) (fun x hx => hp x (List.mem_append_right _ hx)) (fun x hx => hs x (List.mem_append_right _ hx)) h2

/-- a law's row behind a walk that ends in 'true' -/
theorem law_post {f : Func} {s : ChangeSpec} {W W' : World} {args : Array Value} {tb : TypeId} {ds gs : List (DataW H)} {before : List MemPlace}
    (hl : laidOutB P = true) (hr : (f.params.toList.all fun t => P.readableRec t && decide (t < P.types.size)) = true) (hv : s.vars = []) (hrt : f.resultTypes = #[tb]) (htb : P.underlying tb = some .bool)
    (hW : DataW.Whole enc P f.params.toList s.vars false W args.toList ds gs before)
    (hs : gs = [] → s.fn H (ds ++ gs) = { results := [.lit (.bool true)], args := ds })
    (hb : Below W.heap.size W W') : s.post enc P f false true false false W args (.bool true) W' := by
  have hlt : ∀ p ∈ before, p.block < W.heap.size := fun p hp => hW.lt p hp
  have hW' := hW
  obtain ⟨p, q, hA, hV, rfl, hfz, hnd⟩ := hW
  rw [hv] at hV
  obtain ⟨rfl, rfl⟩ := trodVars_none hV
  simp only [List.append_nil] at hlt
  have hf := hs rfl
  have hfv : (s.fn H (ds ++ [])).vars = [] := by rw [hf]
  have hr' : ∀ t ∈ f.params.toList, P.readableRec t = true ∧ t < P.types.size := fun t ht => by
    have := List.all_eq_true.1 hr t ht
    simpa using this
  refine ⟨ds, [], p ++ [], [], p, [], hW', ?_, ?_, ?_, ?_, fun h => by cases h⟩
  · rw [hf, hrt]
    exact trodAll_mk1 (shut_bool htb _)
  · rw [hf]
    exact trodAll_kept hl hb hr' hlt (fun x hx => by simpa using hlt x hx) hA
  · rw [hv, hfv]; exact rfl
  · exact hb.frame _

/-- a slice of structs whose fields are all ints: each field of each element by its place -/
theorem open_int_rows {w : World} {base : Nat} {spare : Nat → Bool} {held : Bool} {t e ti : TypeId} {fs : Array Field} {fuel : Nat} {cs : List Value} {x : DataW H × List MemPlace}
    (ht : P.underlying t = some (.slice e)) (he : P.underlying e = some (.struct fs)) (hone : oneCellFields P fs = true) (hC : P.cellsOf e = fs.size) (hti : P.underlying ti = some (.int .i64)) (hfs : (fs.toList.all fun f => f.type == ti) = true)
    (h : DataW.trod enc P w base spare held fuel t cs = some x) :
    ∃ (A : Option Addr) (len cap : Nat) (Z : Nat → Nat → Int), cs = [.slice A len cap] ∧ len ≤ maxLen ∧ len ≤ cap ∧
      ∀ i, i < len → ∀ j, j < fs.size → (Lit.int .i64 (Z i j)).wf = true ∧ ∃ b o, A = some ⟨b, o, none⟩ ∧ b < w.heap.size ∧ w.cell? ⟨b, o + i * fs.size + j, none⟩ = some (.int .i64 (Z i j)) := by
  rcases open_slice ht h with ⟨rfl, rfl⟩ | ⟨a, len, cap, m, n, D, Pl, rfl, hb, hl, hm, hmm, hx, hi⟩
  · exact ⟨none, 0, 0, fun _ _ => 0, rfl, by omega, by omega, fun i hi => by omega⟩
  have hlm : len ≤ m := by rw [hmm]; split <;> omega
  have key : ∀ i, i < len → ∀ j, j < fs.size → ∃ z, (Lit.int .i64 z).wf = true ∧ w.cell? (a.add (i * fs.size + j)) = some (.int .i64 z) := by
    intro i hil j hj
    obtain ⟨cs', hc, htr⟩ := hi i (by omega)
    rw [hC] at hc
    obtain ⟨ys, n', _, _, hlen, _, hf⟩ := DataW.trod_struct he htr
    obtain ⟨_, _, hat⟩ := World.cells?_some hc
    obtain ⟨ho, hk⟩ := hone_of hone j fs[j] (by simp [hj])
    have hty : fs[j].type = ti := by
      have := List.all_eq_true.1 hfs fs[j] (by simp)
      simpa using this
    have h1 := hf j fs[j] (by simp [hj])
    rw [ho, hk] at h1
    have hl' : cs'.length = fs.size := by rw [hlen, hC]
    have hd : (cs'.drop j).take 1 = [cs'[j]'(by omega)] := by
      rw [List.drop_eq_getElem_cons (by omega)]
      rfl
    rw [hd, hty] at h1
    have hys : ys[j]? = some (ys[j]'(by omega)) := List.getElem?_eq_getElem (by omega)
    obtain ⟨z, hz1, _, hwf⟩ := DataW.trod_int hti (h1.trans hys)
    refine ⟨z, hwf, ?_⟩
    rw [← Go.Deep.add_add, hat j hj, List.getElem?_eq_getElem (by omega)]
    simpa using hz1
  have hfun : ∃ Z : Nat → Nat → Int, ∀ i, i < len → ∀ j, j < fs.size → (Lit.int .i64 (Z i j)).wf = true ∧ w.cell? (a.add (i * fs.size + j)) = some (.int .i64 (Z i j)) := by
    classical
    refine ⟨fun i j => if hh : i < len ∧ j < fs.size then Classical.choose (key i hh.1 j hh.2) else 0, fun i hi' j hj => ?_⟩
    simp only [dif_pos (show i < len ∧ j < fs.size from ⟨hi', hj⟩)]
    exact Classical.choose_spec (key i hi' j hj)
  obtain ⟨Z, hZ⟩ := hfun
  refine ⟨some a, len, cap, Z, rfl, by omega, hl, fun i hi' j hj => ⟨(hZ i hi' j hj).1, a.block, a.off, ?_, ?_, ?_⟩⟩
  · have := (hZ i hi' j hj).2
    have hsp : a.spot = none := by
      obtain ⟨ab, ao, spo⟩ := a
      cases spo with
      | none => rfl
      | some s =>
        have h0 := (hZ i hi' 0 (by omega)).2
        have h00 := (hZ 0 (by omega) 0 (by omega)).2
        simp [Addr.add, World.cell?] at h00
        split at h00 <;> simp_all
    cases a; simp_all
  · have := block_lt_of_cell (hZ i hi' j hj).2
    unfold Addr.add at this
    split at this <;> exact this
  · have h1 := (hZ i hi' j hj).2
    have h0 := (hZ 0 (by omega) 0 (by omega)).2
    rw [← h1]
    congr 1
    unfold Addr.add
    split
    · rename_i h2
      obtain ⟨ab, ao, spo⟩ := a
      cases spo with
      | none => simp; omega
      | some s => simp [Addr.add, World.cell?] at h0; split at h0 <;> simp_all
    · simp [Nat.add_assoc]
end

/-- the rows so opened read as a list of whatever is made of their fields -/
theorem rdE_of_rows {α : Type} {w : World} {A : Option Addr} {n m : Nat} {Z : Nat → Nat → Int} (mk : (Nat → Int) → α) (enc : α → List Value) (hm : 0 < m)
    (henc : ∀ z : Nat → Int, ∀ j v, (enc (mk z))[j]? = some v → j < m ∧ v = .int .i64 (z j))
    (hZ : ∀ i, i < n → ∀ j, j < m → (Lit.int .i64 (Z i j)).wf = true ∧ ∃ b o, A = some ⟨b, o, none⟩ ∧ b < w.heap.size ∧ w.cell? ⟨b, o + i * m + j, none⟩ = some (.int .i64 (Z i j))) :
    RdE enc m w A ((List.range n).map fun i => mk (Z i)) := by
  intro i x hx
  have hi : i < n := by
    have := (List.getElem?_eq_some_iff.1 hx).1
    simpa using this
  have hx' : mk (Z i) = x := by simpa [hi] using hx
  subst hx'
  obtain ⟨_, b, o, e1, e2, _⟩ := hZ i hi 0 hm
  refine ⟨b, o, e1, e2, fun j v hv => ?_⟩
  obtain ⟨hj, rfl⟩ := henc _ _ _ hv
  obtain ⟨_, b', o', f1, _, f3⟩ := hZ i hi j hj
  obtain ⟨rfl, rfl⟩ : b = b' ∧ o = o' := by rw [e1] at f1; simpa using f1
  exact f3

/-- a slice of ints as rows of one -/
theorem open_int_list {H : Type} {enc : TypeId × Value → H} {P : Program} {w : World} {base : Nat} {spare : Nat → Bool} {held : Bool} {t e : TypeId} {fuel : Nat} {cs : List Value} {x : DataW H × List MemPlace}
    (ht : P.underlying t = some (.slice e)) (he : P.underlying e = some (.int .i64)) (hc : P.cellsOf e = 1)
    (h : DataW.trod enc P w base spare held fuel t cs = some x) :
    ∃ (A : Option Addr) (len cap : Nat) (Z : Nat → Nat → Int), cs = [.slice A len cap] ∧ len ≤ maxLen ∧ len ≤ cap ∧
      ∀ i, i < len → ∀ j, j < 1 → (Lit.int .i64 (Z i j)).wf = true ∧ ∃ b o, A = some ⟨b, o, none⟩ ∧ b < w.heap.size ∧ w.cell? ⟨b, o + i * 1 + j, none⟩ = some (.int .i64 (Z i j)) := by
  rcases open_ints ht he hc h with ⟨rfl, rfl⟩ | ⟨a, len, cap, zs, rfl, hb, hl, hm, hzl, hx, hat, hwf⟩
  · exact ⟨none, 0, 0, fun _ _ => 0, rfl, by omega, by omega, fun i hi => by omega⟩
  have hlz : len ≤ zs.length := by rw [hzl]; split <;> omega
  refine ⟨some a, len, cap, fun i _ => zs.getD i 0, rfl, by omega, hl, fun i hi j hj => ⟨hwf _ (by show zs.getD i 0 ∈ zs; rw [List.getD_eq_getElem?_getD, List.getElem?_eq_getElem (by omega)]; exact List.getElem_mem _), a.block, a.off, ?_, ?_, ?_⟩⟩
  · have h0 := hat 0 (by omega)
    obtain ⟨ab, ao, spo⟩ := a
    cases spo with
    | none => rfl
    | some s => simp [Addr.add, World.cell?] at h0; split at h0 <;> simp_all
  · have := block_lt_of_cell (hat i (by omega))
    unfold Addr.add at this
    split at this <;> exact this
  · have h0 := hat 0 (by omega)
    rw [← hat i (by omega)]
    congr 1
    obtain ⟨ab, ao, spo⟩ := a
    cases spo with
    | none =>
      obtain rfl : j = 0 := by omega
      simp [Addr.add]
    | some s => simp [Addr.add, World.cell?] at h0; split at h0 <;> simp_all
/-- and read as the list -/
theorem rdE_of_list {w : World} {A : Option Addr} {n : Nat} {Z : Nat → Nat → Int}
    (hZ : ∀ i, i < n → ∀ j, j < 1 → (Lit.int .i64 (Z i j)).wf = true ∧ ∃ b o, A = some ⟨b, o, none⟩ ∧ b < w.heap.size ∧ w.cell? ⟨b, o + i * 1 + j, none⟩ = some (.int .i64 (Z i j))) :
    RdE (fun z : Int => [.int .i64 z]) 1 w A ((List.range n).map fun i => Z i 0) :=
  rdE_of_rows (fun z => z 0) _ (by decide) (fun z j v hv => by
    match j, hv with
    | 0, hv => exact ⟨by decide, by simpa using hv.symm⟩
    | j + 1, hv => simp at hv) hZ

theorem own : ownKnob Tryz.prog.godebug = none := by kernel_rfl
theorem laidOut : laidOutB Tryz.prog = true := by kernel_rfl
end Go.Proofs.YtjdckepbihcgfaaGreatDoor

namespace Go.Proofs.YtjdckepbihcgfaaGreatDoor
open Go.RowKit
attribute [local go_sem ↓] run_eql_rel run_eqGuard_rel exec_load_rel exec_store_rel
attribute [local go_sem] relCells_size relCells_ones relCells_get0 relCells_getS


theorem tb_and (x j : Nat) (hx : x < 65536) : (bits BinOp.and IntKind.u16 ((x : Int) / 2 ^ j) 1 == 1) = x.testBit j := by
  have e : ((x : Int) / 2 ^ j) = ((x / 2 ^ j : Nat) : Int) := by simp
  have hy : x / 2 ^ j < 65536 := Nat.lt_of_le_of_lt (Nat.div_le_self _ _) hx
  rw [e, Nat.testBit_eq_decide_div_mod_eq]
  generalize x / 2 ^ j = y at *
  have := u16_and_nat y 1 hy (by omega)
  rw [Nat.and_one_is_mod] at this
  rw [show (1 : Int) = ((1 : Nat) : Int) from rfl, this]
  by_cases h : y % 2 = 1
  · simp [h]
  · have : (((y % 2 : Nat) : Int) == ((1 : Nat) : Int)) = false := by rw [beq_eq_false_iff_ne]; omega
    rw [this]; simp [h]
set_option maxHeartbeats 1000000 in
theorem has_any (n : Int) (f : Nat → Nat) (i j : Nat) (w : World) (hi : i < 12) (hj : j < 16) (hf : f i < 65536) :
    Calls Tryz.prog 96 #[.agg (relCells n f), .int .i64 i, .int .i64 j] w fun e w' => e = .returned (.bool ((f i).testBit j)) ∧ Below w.heap.size w w' := by
  have hi' : (i : Int) < 12 := by omega
  have a1 := relCells_at n f i hi
  go_enter Tryz.func96, Tryz.ntmps96
  go_wp2_with (fail)
  go_ret
  exact ⟨ret_bool (tb_and _ _ hf), by (repeat (first | assumption | exact Below.refl _ _ | refine bel_alloc ?_ _ | refine Below.drew ?_ | refine below_drewN' ?_ _ | (refine bel_set ?_ (by first | (simp; done) | (simp; omega)) _) | (refine bel_row ?_ (by first | (simp; done) | (simp; omega)) _)))⟩

/-- those that stand ahead of one -/
def befF (f : Nat → Nat) (j n : Nat) : Nat := bitsTo (fun i => (f i).testBit j) n

set_option maxRecDepth 20000 in
set_option maxHeartbeats 1000000 in
theorem before_any (n : Nat) (f : Nat → Nat) (j : Nat) (w : World) (hn : n ≤ 12) (hj : j < 16) (hf : ∀ i, i < 12 → f i < 65536) :
    Calls Tryz.prog 50 #[.agg (relCells n f), .int .i64 j] w fun e w' => e = .returned (.int .u16 (befF f j n)) ∧ Below w.heap.size w w' := by
  have Hf := Lib.hid hf
  clear hf
  go_enter Tryz.func50, Tryz.ntmps50
  go_wp2_with (fail)
  go_loopw [5, 9] (fun o i wr => ∃ k : Nat, k ≤ n ∧ i = .int .i64 k ∧ o = .int .u16 (befF f j k) ∧ Below w.heap.size w wr ∧ Blk wr w.heap.size 43 (relCells n f)) (fun _ i _ => n - (intOf i).toNat)
  case atStart => exact ⟨0, by omega, rfl, rfl, by (repeat (first | assumption | exact Below.refl _ _ | refine bel_alloc ?_ _ | refine Below.drew ?_ | refine below_drewN' ?_ _ | (refine bel_set ?_ (by first | (simp; done) | (simp; omega)) _) | (refine bel_row ?_ (by first | (simp; done) | (simp; omega)) _))), Blk.new _ _ _⟩
  case round =>
    obtain ⟨k, hk, rfl, rfl, hbel, hblk⟩ := hrel
    have hrow := hblk.rowOf
    by_cases hlt : k < n
    · have hs : befF f j (k + 1) = befF f j k + if (f k).testBit j then 2 ^ k else 0 := rfl
      have Hs := Lib.hid hs; clear hs
      by_cases hb : (f k).testBit j = true
      · have Hb := Lib.hid hb; clear hb
        go_wp2_with (go_at_call 96; refine (has_any _ f k j _ (by omega) (by omega) (Hf.out k (by omega))).mono ?_; rintro e w1 ⟨rfl, hb1⟩; rw [Hb.out])
        go_roundw
        case rel => exact ⟨k + 1, by omega, by go_num, congrArg (Value.int .u16) (or_bit _ (by omega) Hb.out), by exact bel_trans hbel hb1, hblk.carry hb1⟩
        case measure => simp [intOf]; omega
      · have Hb := Lib.hid (Bool.eq_false_iff.2 hb); clear hb
        go_wp2_with (go_at_call 96; refine (has_any _ f k j _ (by omega) (by omega) (Hf.out k (by omega))).mono ?_; rintro e w1 ⟨rfl, hb1⟩; rw [Hb.out])
        go_roundw
        case rel => exact ⟨k + 1, by omega, by go_num, by rw [Hs.out, Hb.out]; rfl, bel_trans hbel hb1, hblk.carry hb1⟩
        case measure => simp [intOf]; omega
    · obtain rfl : k = n := by omega
      go_wp2_with (fail)
      go_ret
      exact ⟨rfl, hbel⟩
end Go.Proofs.YtjdckepbihcgfaaGreatDoor

namespace Go.Proofs.YtjdckepbihcgfaaGreatDoor
open Go.RowKit
attribute [local go_sem ↓] run_eql_rel run_eqGuard_rel exec_load_rel exec_store_rel
attribute [local go_sem] relCells_size relCells_ones relCells_get0 relCells_getS

def relBad (n : Nat) (f : Nat → Nat) (i : Nat) : Bool := (decide (n ≤ i) && f i != 0) || f i / 2 ^ n != 0
def chkR (n : Int) (f : Nat → Nat) : Int := if n < 0 ∨ 12 < n then 1 else if (List.range 12).any (relBad n.toNat f) then 3 else 0
theorem chkR_arg {n : Int} {f : Nat → Nat} (h : n < 0 ∨ 12 < n) : chkR n f = 1 := by simp [chkR, h]
theorem chkR_in (n : Nat) (f : Nat → Nat) (h : n ≤ 12) : chkR n f = if (List.range 12).any (relBad n f) then 3 else 0 := by
  have : ¬ ((n : Int) < 0 ∨ 12 < (n : Int)) := by omega
  simp [chkR, this]
theorem chkR_bad {n : Nat} {f : Nat → Nat} (h : n ≤ 12) {k : Nat} (hk : k < 12) (hb : relBad n f k = true) : chkR n f = 3 := by
  rw [chkR_in n f h, if_pos (List.any_eq_true.2 ⟨k, by simpa using hk, hb⟩)]
theorem chkR_ok {n : Nat} {f : Nat → Nat} (h : n ≤ 12) (hb : ∀ k, k < 12 → relBad n f k = false) : chkR n f = 0 := by
  rw [chkR_in n f h, if_neg]
  intro e
  obtain ⟨k, hk, h2⟩ := List.any_eq_true.1 e
  rw [hb k (by simpa using hk)] at h2
  cases h2
theorem div_cast_ne (x m : Nat) : (((x : Int) / 2 ^ m != 0) = true) ↔ x / 2 ^ m ≠ 0 := by
  have e : ((x : Int) / 2 ^ m) = ((x / 2 ^ m : Nat) : Int) := by simp
  rw [e, bne_iff_ne]
  omega
theorem relBad_t1 {m k : Nat} {f : Nat → Nat} (h1 : m ≤ k) (h2 : ¬ f k = 0) : relBad m f k = true := by simp [relBad, h1, h2]
theorem relBad_t2 {m k : Nat} {f : Nat → Nat} (h : ((f k : Int) / 2 ^ m != 0) = true) : relBad m f k = true := by
  have := (div_cast_ne _ _).1 h
  unfold relBad
  rw [Bool.or_eq_true, bne_iff_ne]
  exact .inr this
theorem relBad_f1 {m k : Nat} {f : Nat → Nat} (_h1 : m ≤ k) (h2 : f k = 0) : relBad m f k = false := by simp [relBad, h2]
theorem relBad_f2 {m k : Nat} {f : Nat → Nat} (h1 : ¬ m ≤ k) (h : ((f k : Int) / 2 ^ m != 0) = false) : relBad m f k = false := by
  have h3 : f k / 2 ^ m = 0 := by
    refine Decidable.byContradiction fun hn => ?_
    rw [(div_cast_ne _ _).2 hn] at h
    cases h
  have : decide (m ≤ k) = false := by simpa using h1
  unfold relBad
  rw [this, h3]
  rfl
theorem relBad_next {m k : Nat} {f : Nat → Nat} (h : Hid (∀ j, j < k → relBad m f j = false)) (hk : relBad m f k = false) : Hid (∀ j, j < k + 1 → relBad m f j = false) :=
  Lib.hid fun j hj => by
    by_cases e : j = k
    · subst e; exact hk
    · exact h.out j (by omega)
theorem run_index_after (f : Nat → Nat) (k : Nat) (hk : k < 12) (w : World) : (Instr.index 41 (.agg (u16s f 12).toArray) (.int .i64 k)).run Tryz.prog w = .ok (.int .u16 (f k)) w := by
  have h1 : (u16s f 12)[k]? = some (.int .u16 (f k)) := by simp [u16s, hk]
  have h2 : (0 : Int) ≤ (k : Int) ∧ (k : Int) < 12 := by omega
  simp only [Instr.index, asIntOf, Sem.run_bind, Sem.run_pure, Result.andThen_ok, run_underlying Tryz.underlying41]
  simp [h2, part, h1]

set_option maxRecDepth 20000 in
set_option maxHeartbeats 1000000 in
theorem relCheck_any (n : Int) (f : Nat → Nat) (w : World) (hf : ∀ i, i < 12 → f i < 65536) :
    Calls Tryz.prog 138 #[.agg (relCells n f)] w fun e w' => e = .returned (.int .i64 (chkR n f)) ∧ Below w.heap.size w w' := by
  by_cases hn : n < 0 ∨ 12 < n
  · have Hn := Lib.hid (chkR_arg (f := f) hn)
    rcases hn with hn | hn
    · have hd : decide (n < 0) = true := by simpa using hn
      clear hn
      go_enter Tryz.func138, Tryz.ntmps138
      go_wp2_with (fail)
      go_ret
      exact ⟨ret_int Hn.out.symm, by (repeat (first | assumption | exact Below.refl _ _ | refine bel_alloc ?_ _ | refine Below.drew ?_ | refine below_drewN' ?_ _ | (refine bel_set ?_ (by first | (simp; done) | (simp; omega)) _) | (refine bel_row ?_ (by first | (simp; done) | (simp; omega)) _)))⟩
    · have hd : decide (n < 0) = false := by simp; omega
      go_enter Tryz.func138, Tryz.ntmps138
      go_wp2_with (fail)
      go_ret
      exact ⟨ret_int Hn.out.symm, by (repeat (first | assumption | exact Below.refl _ _ | refine bel_alloc ?_ _ | refine Below.drew ?_ | refine below_drewN' ?_ _ | (refine bel_set ?_ (by first | (simp; done) | (simp; omega)) _) | (refine bel_row ?_ (by first | (simp; done) | (simp; omega)) _)))⟩
  · obtain ⟨m, rfl⟩ : ∃ m : Nat, n = m := ⟨n.toNat, by omega⟩
    have hm : m ≤ 12 := by omega
    have Hf := Lib.hid hf
    clear hf hn
    go_enter Tryz.func138, Tryz.ntmps138
    have hr : (w.alloc (.cells (relCells m f) 43)).rangeAt w.heap.size 1 (u16s f 12) := fun j v hv => by
      have hj : j < 12 := by
        have := (List.getElem?_eq_some_iff.1 hv).1
        simpa [u16s] using this
      rw [(Blk.new w 43 (relCells m f)).cell (1 + j), relCells_at _ _ _ hj]
      simpa [u16s, hj] using hv
    go_wp2_with (refine wpList_load_mid rfl 41 _ rfl w.heap.size 1 rfl (u16s f 12) _ hr Tryz.underlying41 rfl (by kernel_rfl) ?_)
    go_loopw [15] (fun i wr => ∃ k : Nat, k ≤ 12 ∧ i = .int .i64 k ∧ Hid (∀ j, j < k → relBad m f j = false) ∧ Below w.heap.size w wr ∧ Blk wr w.heap.size 43 (relCells m f)) (fun i _ => 12 - (intOf i).toNat)
    case atStart => exact ⟨0, by omega, rfl, Lib.hid (by omega), by (repeat (first | assumption | exact Below.refl _ _ | refine bel_alloc ?_ _ | refine Below.drew ?_ | refine below_drewN' ?_ _ | (refine bel_set ?_ (by first | (simp; done) | (simp; omega)) _) | (refine bel_row ?_ (by first | (simp; done) | (simp; omega)) _))), Blk.new _ _ _⟩
    case round =>
      obtain ⟨k, hk, rfl, hall, hbel, hblk⟩ := hrel
      clear hr
      have hrow := hblk.rowOf
      have c0 := (hblk.cell 0).trans (relCells_n _ _)
      by_cases hlt : k < 12
      · have hix := run_index_after f k hlt
        have Hb := Lib.hid (show relBad m f k = ((decide (m ≤ k) && f k != 0) || f k / 2 ^ m != 0) from rfl)
        go_wp2_with (fail)
        all_goals first
          | (go_ret; exact ⟨ret_int (chkR_bad hm hlt (by first | exact relBad_t1 (by assumption) (by assumption) | exact relBad_t2 (by assumption))).symm, by (repeat (first | assumption | exact Below.refl _ _ | refine bel_alloc ?_ _ | refine Below.drew ?_ | refine below_drewN' ?_ _ | (refine bel_set ?_ (by first | (simp; done) | (simp; omega)) _) | (refine bel_row ?_ (by first | (simp; done) | (simp; omega)) _)))⟩)
          | (go_roundw
             case rel => exact ⟨k + 1, by omega, by go_num, relBad_next hall (by first | exact relBad_f1 (by assumption) (by assumption) | exact relBad_f2 (by assumption) (by assumption)), by (repeat (first | assumption | exact Below.refl _ _ | refine bel_alloc ?_ _ | refine Below.drew ?_ | refine below_drewN' ?_ _ | (refine bel_set ?_ (by first | (simp; done) | (simp; omega)) _) | (refine bel_row ?_ (by first | (simp; done) | (simp; omega)) _))), hblk⟩
             case measure => simp [intOf]; omega)
      · obtain rfl : k = 12 := by omega
        go_wp2_with (fail)
        go_ret
        exact ⟨ret_int (chkR_ok hm hall.out).symm, hbel⟩

/-- Warshall's step, round, whole -/
def wStep (k : Nat) (f : Nat → Nat) (i : Nat) : Nat → Nat := if (f i).testBit k then upd f i (f i ||| f k) else f
def wIn (f : Nat → Nat) (k : Nat) : Nat → (Nat → Nat)
  | 0 => f
  | m + 1 => wStep k (wIn f k m) m
def wOut (f : Nat → Nat) (n : Nat) : Nat → (Nat → Nat)
  | 0 => f
  | k + 1 => wIn (wOut f n k) k n
def closedF (n : Nat) (f : Nat → Nat) : Nat → Nat := wOut f n n
theorem wStep_lt {f : Nat → Nat} {B : Nat} (h : ∀ i, i < 12 → f i < 2 ^ B) (k i : Nat) (hk : k < 12) (hi : i < 12) : ∀ j, j < 12 → wStep k f i j < 2 ^ B := by
  intro j hj
  unfold wStep
  split
  · unfold upd
    split
    · exact Nat.or_lt_two_pow (h i hi) (h k hk)
    · exact h j hj
  · exact h j hj
theorem wIn_lt {f : Nat → Nat} {B : Nat} (h : ∀ i, i < 12 → f i < 2 ^ B) (k : Nat) (hk : k < 12) : ∀ m, m ≤ 12 → ∀ j, j < 12 → wIn f k m j < 2 ^ B
  | 0, _ => h
  | m + 1, hm => wStep_lt (wIn_lt h k hk m (by omega)) k m hk (by omega)
theorem wOut_lt {f : Nat → Nat} {B : Nat} (h : ∀ i, i < 12 → f i < 2 ^ B) (n : Nat) (hn : n ≤ 12) : ∀ k, k ≤ 12 → ∀ j, j < 12 → wOut f n k j < 2 ^ B
  | 0, _ => h
  | k + 1, hk => wIn_lt (wOut_lt h n hn k (by omega)) k (by omega) n hn

set_option maxRecDepth 20000 in
set_option maxHeartbeats 2000000 in
theorem closed_any (n : Nat) (f : Nat → Nat) (w : World) (hn : n ≤ 12) (hf : ∀ i, i < 12 → f i < 65536) :
    Calls Tryz.prog 139 #[.agg (relCells n f)] w fun e w' => e = .returned (.agg (relCells n (closedF n f))) ∧ Below w.heap.size w w' := by
  have Hf : Hid (∀ k, k ≤ 12 → ∀ j, j < 12 → wOut f n k j < 65536) := Lib.hid (wOut_lt (B := 16) hf n hn)
  clear hf
  go_enter Tryz.func139, Tryz.ntmps139
  go_wp2_with (fail)
  go_loopw [7] (fun i wr => ∃ k : Nat, k ≤ n ∧ i = .int .i64 k ∧ Below w.heap.size w wr ∧ Blk wr w.heap.size 43 (relCells n (wOut f n k)) ∧ Blk wr (w.heap.size + 1) 43 (relCells 0 (fun _ => 0))) (fun i _ => n - (intOf i).toNat)
  case atStart => exact ⟨0, by omega, rfl, by (repeat (first | assumption | exact Below.refl _ _ | refine bel_alloc ?_ _ | refine Below.drew ?_ | refine below_drewN' ?_ _ | (refine bel_set ?_ (by first | (simp; done) | (simp; omega)) _) | (refine bel_row ?_ (by first | (simp; done) | (simp; omega)) _))), (Blk.new _ _ _).alloc _, by rw [relCells_zero]; exact Blk.new' _ _ _ _ (by simp)⟩
  case round =>
    obtain ⟨k, hk, rfl, hbel, hblk, hres⟩ := hrel
    have c0 := (hblk.cell 0).trans (relCells_n _ _)
    by_cases hlt : k < n
    · have hb16 := Lib.hid (wIn_lt (B := 16) (Hf.out k (by omega)) k (by omega))
      have hnext := Lib.hid (show wOut f n (k + 1) = wIn (wOut f n k) k n from rfl)
      have hfirst := Lib.hid (show wIn (wOut f n k) k 0 = wOut f n k from rfl)
      have hblk0 : Blk wr w.heap.size 43 (relCells n (wIn (wOut f n k) k 0)) := hblk
      clear hblk
      generalize wOut f n k = g at *
      go_wp2_with (fail)
      go_loopw [12] (fun i wr => ∃ m : Nat, m ≤ n ∧ i = .int .i64 m ∧ Below w.heap.size w wr ∧ Blk wr w.heap.size 43 (relCells n (wIn g k m)) ∧ Blk wr (w.heap.size + 1) 43 (relCells 0 (fun _ => 0))) (fun i _ => n - (intOf i).toNat)
      case atStart => exact ⟨0, by omega, rfl, by (repeat (first | assumption | exact Below.refl _ _ | refine bel_alloc ?_ _ | refine Below.drew ?_ | refine below_drewN' ?_ _ | (refine bel_set ?_ (by first | (simp; done) | (simp; omega)) _) | (refine bel_row ?_ (by first | (simp; done) | (simp; omega)) _))), hblk0, hres⟩
      case round =>
        obtain ⟨m, hm, rfl, hbel2, hblk2, hres2⟩ := hrel
        have d0 := (hblk2.cell 0).trans (relCells_n _ _)
        by_cases hlt2 : m < n
        · have hs := Lib.hid (show wIn g k (m + 1) = wStep k (wIn g k m) m from rfl)
          have hb1 := hb16.out m (by omega) m (by omega)
          have hb2 := hb16.out m (by omega) k (by omega)
          have e16 : (2 : Nat) ^ 16 = 65536 := by decide
          rw [e16] at hb1 hb2
          clear e16 c0
          generalize wIn g k m = h at *
          have d1 := (hblk2.cell (1 + m)).trans (relCells_at _ _ m (by omega))
          have d2 := (hblk2.cell (1 + k)).trans (relCells_at _ _ k (by omega))
          have d3 := hblk2.frozen (1 + m)
          have d4 := hblk2.lt
          have hm12 : (m : Int) < 12 := by omega
          have hk12 : (k : Int) < 12 := by omega
          by_cases hbit : (h m).testBit k = true
          · have hw := Lib.hid (show wStep k h m = upd h m (h m ||| h k) by simp [wStep, hbit])
            have hb := (tb_and (h m) k hb1).trans hbit
            clear hbit
            have ho := u16_or_nat (h m) (h k) hb1 hb2
            go_wp2_with (fail)
            go_region
            go_wp2_with (fail)
            go_roundw
            case rel =>
              refine ⟨m + 1, by omega, by go_num, by (repeat (first | assumption | exact Below.refl _ _ | refine bel_alloc ?_ _ | refine Below.drew ?_ | refine below_drewN' ?_ _ | (refine bel_set ?_ (by first | (simp; done) | (simp; omega)) _) | (refine bel_row ?_ (by first | (simp; done) | (simp; omega)) _))), ?_, hres2.far (by simp) _⟩
              rw [hs.out, hw.out, ← relCells_set _ _ _ _ (by omega)]
              exact hblk2.set_ (1 + m) _
            case measure => simp [intOf]; omega
          · have hw := Lib.hid (show wStep k h m = h by simp [wStep, hbit])
            have hb := (tb_and (h m) k hb1).trans (Bool.eq_false_iff.2 hbit)
            clear hbit
            go_wp2_with (fail)
            go_roundw
            case rel => exact ⟨m + 1, by omega, by go_num, hbel2, by rw [hs.out, hw.out]; exact hblk2, hres2⟩
            case measure => simp [intOf]; omega
        · obtain rfl : m = n := by omega
          go_wp2_with (fail)
          go_roundw
          case rel => exact ⟨k + 1, by omega, by go_num, hbel2, by rw [hnext.out]; exact hblk2, hres2⟩
          case measure => simp [intOf]; omega
    · obtain rfl : k = n := by omega
      have r1 := hblk.rowOf
      have r2 := hres.rowOf
      go_wp2_with (fail)
      refine bodyPost_ret (results_cell_row rfl _ _ _ 43 _ (0, 0) _ rfl (hres.row _) Tryz.underlying43 rfl (rel_info _ _)) rfl ?_
      exact ⟨rfl, by (repeat (first | assumption | exact Below.refl _ _ | refine bel_alloc ?_ _ | refine Below.drew ?_ | refine below_drewN' ?_ _ | (refine bel_set ?_ (by first | (simp; done) | (simp; omega)) _) | (refine bel_row ?_ (by first | (simp; done) | (simp; omega)) _)))⟩

theorem results_cell_two {fn : Func} {p u v : Tmp} {ty : TypeId} (h : fn.results = #[.cell p ty, .tmp u, .tmp v]) (tmps : Array Value) (P : Program) (w : World) :
    (results fn tmps).run P w =
      ((asAddr (tmps.getD p undef)).run P w).andThen fun a w₁ => ((loadVar ty a).run P w₁).andThen fun x w₂ => .ok (.tuple #[x, tmps.getD u undef, tmps.getD v undef]) w₂ := by
  simp only [results, h]
  simp [Sem.run_bind, Result.andThen]

def isCyc (n : Nat) (c : Nat → Nat) : Bool := (List.range n).any fun i => (c i).testBit i
theorem isCyc_at {n : Nat} {c : Nat → Nat} {k : Nat} (hk : k < n) (h : (c k).testBit k = true) : isCyc n c = true := List.any_eq_true.2 ⟨k, by simpa using hk, h⟩
theorem isCyc_no {n : Nat} {c : Nat → Nat} (h : ∀ k, k < n → (c k).testBit k = false) : isCyc n c = false := by
  rw [isCyc, List.any_eq_false]
  intro k hk
  rw [h k (by simpa using hk)]
  simp

set_option maxRecDepth 20000 in
set_option maxHeartbeats 2000000 in
theorem close_ok (n : Nat) (f : Nat → Nat) (w : World) (hn : n ≤ 12) (hf : ∀ i, i < 12 → f i < 65536) (h0 : chkR n f = 0) :
    Calls Tryz.prog 95 #[.agg (relCells n f)] w fun e w' => e = .returned (.tuple #[.agg (relCells n (closedF n f)), .bool (isCyc n (closedF n f)), .int .i64 0]) ∧ Below w.heap.size w w' := by
  have hne : (chkR n f != 0) = false := by simp [h0]
  have Hf := Lib.hid hf
  have Hc : Hid (∀ j, j < 12 → closedF n f j < 65536) := Lib.hid (wOut_lt (B := 16) hf n hn n hn)
  clear h0 hf
  go_enter Tryz.func95, Tryz.ntmps95
  go_wp2_with (first
    | (go_at_call 138; refine (relCheck_any _ _ _ Hf.out).mono ?_; rintro e w1 ⟨rfl, hb1⟩; have hx := ((Blk.new w 43 (relCells n f)).alloc (Obj.cells (relCells 0 (fun _ => 0)) 43)).carry hb1; have hz := (Blk.new (w.alloc (.cells (relCells n f) 43)) 43 (relCells 0 (fun _ => 0))).carry hb1; have hB := bel_trans (bel_alloc (bel_alloc (Below.refl _ w) _) _) hb1; simp only [World.size_alloc] at hz; have hr := hx.rowOf)
    | (go_at_call 139; refine (closed_any n f _ hn Hf.out).mono ?_; rintro e w2 ⟨rfl, hb2⟩; have hz2 := hz.carry hb2; have hB2 := bel_trans hB hb2))
  generalize hcc : closedF n f = c at *
  have Hcc := Lib.hid hcc
  clear hcc
  go_loopw [18] (fun i wr => ∃ k : Nat, k ≤ n ∧ i = .int .i64 k ∧ Hid (∀ j, j < k → (c j).testBit j = false) ∧ Below w.heap.size w wr ∧ Blk wr w2.heap.size 43 (relCells n c) ∧ Blk wr (w.heap.size + 1) 43 (relCells 0 (fun _ => 0))) (fun i _ => n - (intOf i).toNat)
  case atStart => exact ⟨0, by omega, rfl, Lib.hid (by omega), by (repeat (first | assumption | exact Below.refl _ _ | refine bel_alloc ?_ _ | refine Below.drew ?_ | refine below_drewN' ?_ _ | (refine bel_set ?_ (by first | (simp; done) | (simp; omega)) _) | (refine bel_row ?_ (by first | (simp; done) | (simp; omega)) _))), Blk.new _ _ _, hz2.alloc _⟩
  case round =>
    obtain ⟨k, hk, rfl, hall, hbel, hblk, hres⟩ := hrel
    have c0 := (hblk.cell 0).trans (relCells_n _ _)
    have r1 := hblk.rowOf
    have r2 := hres.rowOf
    by_cases hlt : k < n
    · have d1 := (hblk.cell (1 + k)).trans (relCells_at _ _ k (by omega))
      have hk12 : (k : Int) < 12 := by omega
      by_cases hbit : (c k).testBit k = true
      · have hb := (tb_and (c k) k (Hc.out k (by omega))).trans hbit
        have Hy := Lib.hid (isCyc_at hlt hbit)
        clear hbit
        go_wp2_with (fail)
        refine bodyPost_ret ((results_cell_two rfl _ _ _).trans (by simp [asAddr]; rw [run_loadVar_row _ _ 43 _ _ (0, 0) _ (hres.row _) Tryz.underlying43 rfl (rel_info _ _)]; rfl)) rfl ?_
        exact ⟨by rw [Hcc.out, Hy.out], by (repeat (first | assumption | exact Below.refl _ _ | refine bel_alloc ?_ _ | refine Below.drew ?_ | refine below_drewN' ?_ _ | (refine bel_set ?_ (by first | (simp; done) | (simp; omega)) _) | (refine bel_row ?_ (by first | (simp; done) | (simp; omega)) _)))⟩
      · have hb := (tb_and (c k) k (Hc.out k (by omega))).trans (Bool.eq_false_iff.2 hbit)
        have Hn := Lib.hid (Bool.eq_false_iff.2 hbit)
        clear hbit
        go_wp2_with (fail)
        go_roundw
        case rel => exact ⟨k + 1, by omega, by go_num, Lib.hid fun j hj => by
          by_cases e : j = k
          · subst e; exact Hn.out
          · exact hall.out j (by omega), hbel, hblk, hres⟩
        case measure => simp [intOf]; omega
    · obtain rfl : k = n := by omega
      go_wp2_with (fail)
      refine bodyPost_ret ((results_cell_two rfl _ _ _).trans (by simp [asAddr]; rw [run_loadVar_row _ _ 43 _ _ (0, 0) _ (hres.row _) Tryz.underlying43 rfl (rel_info _ _)]; rfl)) rfl ?_
      exact ⟨by rw [Hcc.out, isCyc_no hall.out], by (repeat (first | assumption | exact Below.refl _ _ | refine bel_alloc ?_ _ | refine Below.drew ?_ | refine below_drewN' ?_ _ | (refine bel_set ?_ (by first | (simp; done) | (simp; omega)) _) | (refine bel_row ?_ (by first | (simp; done) | (simp; omega)) _)))⟩

set_option maxRecDepth 20000 in
set_option maxHeartbeats 2000000 in
theorem acyclic_ok (n : Nat) (f : Nat → Nat) (w : World) (hn : n ≤ 12) (hf : ∀ i, i < 12 → f i < 65536) (h0 : chkR n f = 0) (hc : isCyc n (closedF n f) = false) :
    Calls Tryz.prog 49 #[.agg (relCells n f)] w fun e w' => e = .returned (.tuple #[.agg (relCells n (closedF n f)), .int .i64 0]) ∧ Below w.heap.size w w' := by
  have Hc := Lib.hid hc
  have H0 := Lib.hid h0
  have Hf := Lib.hid hf
  clear h0 hf hc
  go_enter Tryz.func49, Tryz.ntmps49
  go_wp2_with (go_at_call 95; refine (close_ok n f _ hn Hf.out H0.out).mono ?_; rintro e w1 ⟨rfl, hb1⟩; rw [Hc.out]; have hz := (Blk.new (w.alloc (.cells (relCells n f) 43)) 43 (relCells 0 (fun _ => 0))).carry hb1; have hB := bel_trans (bel_alloc (bel_alloc (Below.refl _ w) _) _) hb1; simp only [World.size_alloc] at hz; have hr := hz.rowOf; have hl := hz.lt)
  have hz2 := hz.alloc (Obj.cells (relCells n (closedF n f)) 43)
  refine bodyPost_ret ((results_cell_tmp rfl _ _ _).trans (by simp [asAddr]; rw [run_loadVar_row _ _ 43 _ _ (0, 0) _ (hz2.row _) Tryz.underlying43 rfl (rel_info _ _)]; rfl)) rfl ?_
  exact ⟨rfl, by (repeat (first | assumption | exact Below.refl _ _ | refine bel_alloc ?_ _ | refine Below.drew ?_ | refine below_drewN' ?_ _ | (refine bel_set ?_ (by first | (simp; done) | (simp; omega)) _) | (refine bel_row ?_ (by first | (simp; done) | (simp; omega)) _)))⟩
end Go.Proofs.YtjdckepbihcgfaaGreatDoor

namespace Go.Proofs.YtjdckepbihcgfaaGreatDoor
open Go.RowKit

/-- the set of a list's items, as bits -/
def maskOf (out : List Nat) : Nat := out.foldl (fun m i => m ||| 2 ^ i) 0
theorem maskOf_snoc (out : List Nat) (i : Nat) : maskOf (out ++ [i]) = maskOf out ||| 2 ^ i := by simp [maskOf]
theorem maskOf_bit (out : List Nat) (j : Nat) : (maskOf out).testBit j = out.contains j := by
  suffices h : ∀ (out : List Nat) (m : Nat), (out.foldl (fun m i => m ||| 2 ^ i) m).testBit j = (m.testBit j || out.contains j) by
    have := h out 0
    simpa [maskOf] using this
  intro out
  induction out with
  | nil => intro m; simp
  | cons i out ih =>
    intro m
    rw [List.foldl_cons, ih, Nat.testBit_or, Nat.testBit_two_pow, List.contains_cons]
    by_cases h : i = j
    · subst h; simp
    · have h' : ¬ j = i := fun e => h e.symm
      have h2 : (j == i) = false := by simpa using h'
      simp [h, h2]
theorem maskOf_lt (out : List Nat) (n : Nat) (h : ∀ i ∈ out, i < n) : maskOf out < 2 ^ n := by
  apply Nat.lt_pow_two_of_testBit
  intro i hi
  rw [maskOf_bit]
  rw [Bool.eq_false_iff]
  intro hc
  have := h i (by simpa using hc)
  omega
theorem bit_zero (m i : Nat) : ((((m >>> i) &&& 1 : Nat) : Int) = 0) ↔ m.testBit i = false := by
  rw [Nat.testBit, Nat.and_comm]
  constructor
  · intro h
    have : (1 &&& m >>> i : Nat) = 0 := by exact_mod_cast h
    simp [this]
  · intro h
    have : (1 &&& m >>> i : Nat) = 0 := by simpa using h
    exact_mod_cast this
theorem andNot_zero (a b : Nat) (ha : a < 65536) (hb : b < 65536) : (((a &&& (65535 - b) : Nat) : Int) = 0) ↔ ∀ j, a.testBit j = true → b.testBit j = true := by
  have e : (((a &&& (65535 - b) : Nat) : Int) = 0) ↔ (a &&& (65535 - b)) = 0 := by constructor <;> intro h <;> exact_mod_cast h
  rw [e]
  have tb : ∀ j, (65535 - b).testBit j = (decide (j < 16) && !b.testBit j) := fun j => by
    rw [show 65535 - b = 2 ^ 16 - (b + 1) by omega, Nat.testBit_two_pow_sub_succ (by omega)]
  constructor
  · intro h j hj
    have := congrArg (fun x => Nat.testBit x j) h
    simp only [Nat.testBit_and, tb, hj, Nat.zero_testBit, Bool.true_and] at this
    have hj16 : j < 16 := by
      rcases Nat.lt_or_ge j 16 with h | h
      · exact h
      · rw [Nat.testBit_lt_two_pow (Nat.lt_of_lt_of_le ha (show 65536 ≤ 2 ^ j from (show (65536 : Nat) = 2 ^ 16 by decide) ▸ Nat.pow_le_pow_right (by omega) h))] at hj; cases hj
    simpa [hj16] using this
  · intro h
    apply Nat.eq_of_testBit_eq
    intro j
    simp only [Nat.testBit_and, tb, Nat.zero_testBit]
    by_cases hj : a.testBit j = true
    · simp [hj, h j hj]
    · simp [hj]

/-- who may come next -/
def mayC (n : Nat) (f : Nat → Nat) (out : List Nat) (i : Nat) : Bool := !out.contains i && (List.range n).all fun j => !(f j).testBit i || out.contains j
def grow (n : Nat) (f : Nat → Nat) : Nat → List Nat → List Nat
  | 0, out => out
  | m + 1, out => match (List.range n).find? (mayC n f out) with
    | some i => grow n f m (out ++ [i])
    | none => out
theorem may_mask (n : Nat) (f : Nat → Nat) (out : List Nat) (i : Nat) (hn : n ≤ 12) (hout : ∀ k ∈ out, k < n) :
    mayC n f out i = true ↔ ((((maskOf out >>> i) &&& 1 : Nat) : Int) = 0) ∧ (((befF f i n &&& (65535 - maskOf out) : Nat) : Int) = 0) := by
  have hm := maskOf_lt out 16 (fun k hk => by have := hout k hk; omega)
  rw [bit_zero, andNot_zero (befF f i n) _ (bitsTo_lt_16 _ (by omega)) (by simpa using hm), maskOf_bit]
  simp only [mayC, Bool.and_eq_true, Bool.not_eq_true', List.all_eq_true, List.mem_range, Bool.or_eq_true]
  constructor
  · rintro ⟨h1, h2⟩
    refine ⟨h1, fun j hj => ?_⟩
    simp only [befF, bitsTo_testBit, Bool.and_eq_true, decide_eq_true_eq] at hj
    rw [maskOf_bit]
    rcases h2 j hj.1 with h | h
    · rw [hj.2] at h; cases h
    · exact h
  · rintro ⟨h1, h2⟩
    refine ⟨h1, fun j hj => ?_⟩
    cases hb : (f j).testBit i
    · exact .inl rfl
    · right
      have := h2 j (by simp only [befF, bitsTo_testBit, hj, hb]; simp)
      rwa [maskOf_bit] at this
end Go.Proofs.YtjdckepbihcgfaaGreatDoor

namespace Go.Proofs.YtjdckepbihcgfaaGreatDoor

/-- by at least one step -/
inductive Rch (g : Nat → Nat → Prop) : Nat → Nat → Prop
  | one {i j : Nat} (h : g i j) : Rch g i j
  | step {i k j : Nat} (h : g i k) (t : Rch g k j) : Rch g i j
theorem Rch.trans {g : Nat → Nat → Prop} {i j : Nat} (h : Rch g i j) : ∀ {k}, Rch g j k → Rch g i k := by
  induction h with
  | one h => exact fun t => .step h t
  | step h _ ih => exact fun t => .step h (ih t)
def bitR (f : Nat → Nat) (i j : Nat) : Prop := (f i).testBit j = true
theorem wIn_bit (f : Nat → Nat) (k : Nat) : ∀ m i, i < m ∨ m ≤ i → ∀ j, (wIn f k m i).testBit j = if i < m then (f i).testBit j || ((f i).testBit k && (f k).testBit j) else (f i).testBit j
  | 0, i, _, j => by simp [wIn]
  | m + 1, i, _, j => by
    have ih := fun i => wIn_bit f k m i (by omega)
    have ek : ∀ j, (wIn f k m k).testBit j = (f k).testBit j := by
      intro j; rw [ih k j]; split <;> simp
    show (wStep k (wIn f k m) m i).testBit j = _
    unfold wStep
    have em : (wIn f k m m).testBit k = (f m).testBit k := by rw [ih m k, if_neg (by omega)]
    rw [em]
    split
    · rename_i hb
      unfold upd
      by_cases him : i = m
      · subst him
        simp only [if_true, Nat.testBit_or, ek]
        rw [ih i j, if_neg (by omega), if_pos (by omega)]
        simp [hb]
      · simp only [him, if_false]
        rw [ih i j]
        by_cases h2 : i < m
        · rw [if_pos h2, if_pos (by omega)]
        · rw [if_neg h2, if_neg (by omega)]
    · rename_i hb
      rw [ih i j]
      by_cases him : i = m
      · subst him
        rw [if_neg (by omega), if_pos (by omega)]
        simp [hb]
      · by_cases h2 : i < m
        · rw [if_pos h2, if_pos (by omega)]
        · rw [if_neg h2, if_neg (by omega)]
theorem wOut_bit (f : Nat → Nat) (n k i j : Nat) (hi : i < n) : (wOut f n (k + 1) i).testBit j = ((wOut f n k i).testBit j || ((wOut f n k i).testBit k && (wOut f n k k).testBit j)) := by
  show (wIn (wOut f n k) k n i).testBit j = _
  rw [wIn_bit _ _ _ _ (by omega), if_pos hi]
theorem wOut_sound (f : Nat → Nat) (n : Nat) : ∀ k, k ≤ n → ∀ i j, i < n → (wOut f n k i).testBit j = true → Rch (bitR f) i j
  | 0, _, i, j, _, h => .one h
  | k + 1, hk, i, j, hi, h => by
    rw [wOut_bit f n k i j hi] at h
    simp only [Bool.or_eq_true, Bool.and_eq_true] at h
    rcases h with h | ⟨h1, h2⟩
    · exact wOut_sound f n k (by omega) i j hi h
    · exact (wOut_sound f n k (by omega) i k hi h1).trans (wOut_sound f n k (by omega) k j (by omega) h2)
theorem wOut_mono (f : Nat → Nat) (n : Nat) : ∀ k, k ≤ n → ∀ i j, i < n → (f i).testBit j = true → (wOut f n k i).testBit j = true
  | 0, _, i, j, _, h => h
  | k + 1, hk, i, j, hi, h => by
    rw [wOut_bit f n k i j hi, wOut_mono f n k (by omega) i j hi h]; rfl
theorem wOut_trans (f : Nat → Nat) (n : Nat) : ∀ k, k ≤ n → ∀ p, p < k → ∀ i j, i < n → (wOut f n k i).testBit p = true → (wOut f n k p).testBit j = true → (wOut f n k i).testBit j = true
  | 0, _, p, hp, _, _, _, _, _ => by omega
  | k + 1, hk, p, hp, i, j, hi, h1, h2 => by
    have T := wOut_trans f n k (by omega)
    rw [wOut_bit f n k i p hi] at h1
    rw [wOut_bit f n k p j (by omega)] at h2
    rw [wOut_bit f n k i j hi]
    simp only [Bool.or_eq_true, Bool.and_eq_true] at h1 h2 ⊢
    by_cases hpk : p < k
    · rcases h1 with h1 | ⟨h1, h1'⟩ <;> rcases h2 with h2 | ⟨h2, h2'⟩
      · exact .inl (T p hpk i j hi h1 h2)
      · exact .inr ⟨T p hpk i k hi h1 h2, h2'⟩
      · exact .inr ⟨h1, T p hpk k j (by omega) h1' h2⟩
      · exact .inr ⟨h1, h2'⟩
    · obtain rfl : p = k := by omega
      have a1 : (wOut f n p i).testBit p = true := by rcases h1 with h | h; exact h; exact h.1
      have a2 : (wOut f n p p).testBit j = true := by rcases h2 with h | h; exact h; exact h.2
      exact .inr ⟨a1, a2⟩
/-- the closure: what can be reached -/
theorem closedF_rch {n : Nat} {f : Nat → Nat} (hf : ∀ i, i < n → f i < 2 ^ n) {i j : Nat} (hi : i < n) : (closedF n f i).testBit j = true ↔ Rch (bitR f) i j := by
  refine ⟨wOut_sound f n n (Nat.le_refl _) i j hi, fun h => ?_⟩
  induction h with
  | one h => exact wOut_mono f n n (Nat.le_refl _) _ _ hi h
  | @step i k j h _ ih =>
    have hk : k < n := by
      rcases Nat.lt_or_ge k n with h' | h'
      · exact h'
      · have : (f i).testBit k = false := Nat.testBit_lt_two_pow (Nat.lt_of_lt_of_le (hf i hi) (Nat.pow_le_pow_right (by decide) h'))
        rw [bitR, this] at h; cases h
    exact wOut_trans f n n (Nat.le_refl _) k hk i j hi (wOut_mono f n n (Nat.le_refl _) _ _ hi h) (ih hk)
end Go.Proofs.YtjdckepbihcgfaaGreatDoor

namespace Go.Proofs.YtjdckepbihcgfaaGreatDoor
open Go.RowKit

/-- there is always one who may come next -/
def Ripe (n : Nat) (f : Nat → Nat) : Prop := ∀ out : List Nat, out.Nodup → (∀ i ∈ out, i < n) → out.length < n → ∃ i, i < n ∧ mayC n f out i = true
theorem may_new {n : Nat} {f : Nat → Nat} {out : List Nat} {i : Nat} (h : mayC n f out i = true) : i ∉ out := by
  simp only [mayC, Bool.and_eq_true, Bool.not_eq_true'] at h
  simpa using h.1
end Go.Proofs.YtjdckepbihcgfaaGreatDoor

namespace Go.Proofs.YtjdckepbihcgfaaGreatDoor
open Go.RowKit
attribute [local go_sem ↓] run_eql_rel run_eqGuard_rel exec_load_rel exec_store_rel
attribute [local go_sem] relCells_size relCells_ones relCells_get0 relCells_getS

end Go.Proofs.YtjdckepbihcgfaaGreatDoor

namespace Go.Proofs.YtjdckepbihcgfaaGreatDoor
open Go.RowKit

end Go.Proofs.YtjdckepbihcgfaaGreatDoor
