/- Lemmas for the walks (Law, Seq1, Seq2). No condition. -/
import Derived.Test.YtiimjppceobkfaaRows
import Derived.Test.YtiimjppceobkfaaG01
import Derived.ProofKit
import Derived.Deep.Slices
import Derived.Deep.Fields
import Derived.Lib.SmallJoins
import Derived.ChangeSlices
import Derived.Test.YtiimjppceobkfaaG24
set_option linter.unusedSimpArgs false
set_option linter.unusedVariables false
set_option linter.unusedSectionVars false
set_option linter.unnecessarySimpa false
namespace Go.Proofs.Ytiimjppceobkfaa
open Go.ChangeShapes Go.WideShapes Go.ChangeAt Go.RowKit Go.Deep

section
variable {H : Type} {enc : TypeId × Value → H} {P : Program}

/-- arguments read on as they read, where what was there is as it was -/
theorem trodAll_kept (hl : laidOutB P = true) {W W' : World} (hb : Below W.heap.size W W') {sp : Nat → Bool} :
    ∀ {ts : List TypeId} {vs : List Value} {ds : List (DataW H)} {p : List MemPlace}, (∀ t ∈ ts, P.readableRec t = true ∧ t < P.types.size) → (∀ x ∈ p, x.block < W.heap.size) → (∀ x ∈ p, sp x.block = true) →
      DataW.TrodAll enc P W 0 (fun _ => true) true ts vs ds p → DataW.TrodAll enc P W' 0 sp true ts vs ds p
  | [], _, _, _, _, _, _, h => by
    obtain ⟨rfl, rfl, rfl⟩ := trodAll_nil h
    exact trodAll_mk0
  | t :: ts, _, _, _, ht, hp, hs, h => by
    obtain ⟨v, vs, d, ds, a, b, rfl, rfl, rfl, h1, h2⟩ := trodAll_cons h
    obtain ⟨hr, hrow⟩ := ht t (List.mem_cons_self ..)
    refine ⟨a, b, WideElems.Trod_stays hl hr hrow h1 (fun x hx => hb.same (hp x (List.mem_append_left _ hx))) (fun x hx => hs x (List.mem_append_left _ hx)), ?_, rfl⟩
    exact trodAll_kept hl hb (fun t' h' => ht t' (List.mem_cons_of_mem _ h')) (fun x hx => hp x (List.mem_append_right _ hx)) (fun x hx => hs x (List.mem_append_right _ hx)) h2

/-- a law's row behind a walk that ends in 'true' -/
theorem law_post {f : Func} {s : ChangeSpec} {W W' : World} {args : Array Value} {tb : TypeId} {ds gs : List (DataW H)} {before : List MemPlace}
    (hl : laidOutB P = true) (hr : (f.params.toList.all fun t => P.readableRec t && decide (t < P.types.size)) = true) (hv : s.vars = []) (hrt : f.resultTypes = #[tb]) (htb : P.underlying tb = some .bool)
    (hW : DataW.Whole enc P f.params.toList s.vars false W args.toList ds gs before)
    (hs : gs = [] → s.fn H (ds ++ gs) = { results := [.lit (.bool true)], args := ds })
    (hb : Below W.heap.size W W') : s.post enc P f false true false false W args (.bool true) W' := by
  have hlt : ∀ p ∈ before, p.block < W.heap.size := fun p hp => hW.lt p hp
  have hW' := hW
  obtain ⟨p, q, hA, hV, rfl, hfz, hnd⟩ := hW
  rw [hv] at hV
  obtain ⟨rfl, rfl⟩ := trodVars_none hV
  simp only [List.append_nil] at hlt
  have hf := hs rfl
  have hfv : (s.fn H (ds ++ [])).vars = [] := by rw [hf]
  have hr' : ∀ t ∈ f.params.toList, P.readableRec t = true ∧ t < P.types.size := fun t ht => by
    have := List.all_eq_true.1 hr t ht
    simpa using this
  refine ⟨ds, [], p ++ [], [], p, [], hW', ?_, ?_, ?_, ?_, fun h => by cases h⟩
  · rw [hf, hrt]
    exact trodAll_mk1 (shut_bool htb _)
  · rw [hf]
    exact trodAll_kept hl hb hr' hlt (fun x hx => by simpa using hlt x hx) hA
  · rw [hv, hfv]; exact rfl
  · exact hb.frame _

/-- a slice of structs whose fields are all ints: each field of each element by its place -/
theorem open_int_rows {w : World} {base : Nat} {spare : Nat → Bool} {held : Bool} {t e ti : TypeId} {fs : Array Field} {fuel : Nat} {cs : List Value} {x : DataW H × List MemPlace}
    (ht : P.underlying t = some (.slice e)) (he : P.underlying e = some (.struct fs)) (hone : oneCellFields P fs = true) (hC : P.cellsOf e = fs.size) (hti : P.underlying ti = some (.int .i64)) (hfs : (fs.toList.all fun f => f.type == ti) = true)
    (h : DataW.trod enc P w base spare held fuel t cs = some x) :
    ∃ (A : Option Addr) (len cap : Nat) (Z : Nat → Nat → Int), cs = [.slice A len cap] ∧ len ≤ maxLen ∧ len ≤ cap ∧
      ∀ i, i < len → ∀ j, j < fs.size → (Lit.int .i64 (Z i j)).wf = true ∧ ∃ b o, A = some ⟨b, o, none⟩ ∧ b < w.heap.size ∧ w.cell? ⟨b, o + i * fs.size + j, none⟩ = some (.int .i64 (Z i j)) := by
  rcases open_slice ht h with ⟨rfl, rfl⟩ | ⟨a, len, cap, m, n, D, Pl, rfl, hb, hl, hm, hmm, hx, hi⟩
  · exact ⟨none, 0, 0, fun _ _ => 0, rfl, by omega, by omega, fun i hi => by omega⟩
  have hlm : len ≤ m := by rw [hmm]; split <;> omega
  have key : ∀ i, i < len → ∀ j, j < fs.size → ∃ z, (Lit.int .i64 z).wf = true ∧ w.cell? (a.add (i * fs.size + j)) = some (.int .i64 z) := by
    intro i hil j hj
    obtain ⟨cs', hc, htr⟩ := hi i (by omega)
    rw [hC] at hc
    obtain ⟨ys, n', _, _, hlen, _, hf⟩ := DataW.trod_struct he htr
    obtain ⟨_, _, hat⟩ := World.cells?_some hc
    obtain ⟨ho, hk⟩ := hone_of hone j fs[j] (by simp [hj])
    have hty : fs[j].type = ti := by
      have := List.all_eq_true.1 hfs fs[j] (by simp)
      simpa using this
    have h1 := hf j fs[j] (by simp [hj])
    rw [ho, hk] at h1
    have hl' : cs'.length = fs.size := by rw [hlen, hC]
    have hd : (cs'.drop j).take 1 = [cs'[j]'(by omega)] := by
      rw [List.drop_eq_getElem_cons (by omega)]
      rfl
    rw [hd, hty] at h1
    have hys : ys[j]? = some (ys[j]'(by omega)) := List.getElem?_eq_getElem (by omega)
    obtain ⟨z, hz1, _, hwf⟩ := DataW.trod_int hti (h1.trans hys)
    refine ⟨z, hwf, ?_⟩
    rw [← Go.Deep.add_add, hat j hj, List.getElem?_eq_getElem (by omega)]
    simpa using hz1
  have hfun : ∃ Z : Nat → Nat → Int, ∀ i, i < len → ∀ j, j < fs.size → (Lit.int .i64 (Z i j)).wf = true ∧ w.cell? (a.add (i * fs.size + j)) = some (.int .i64 (Z i j)) := by
    classical
    refine ⟨fun i j => if hh : i < len ∧ j < fs.size then Classical.choose (key i hh.1 j hh.2) else 0, fun i hi' j hj => ?_⟩
    simp only [dif_pos (show i < len ∧ j < fs.size from ⟨hi', hj⟩)]
    exact Classical.choose_spec (key i hi' j hj)
  obtain ⟨Z, hZ⟩ := hfun
  refine ⟨some a, len, cap, Z, rfl, by omega, hl, fun i hi' j hj => ⟨(hZ i hi' j hj).1, a.block, a.off, ?_, ?_, ?_⟩⟩
  · have := (hZ i hi' j hj).2
    have hsp : a.spot = none := by
      obtain ⟨ab, ao, spo⟩ := a
      cases spo with
      | none => rfl
      | some s =>
        have h0 := (hZ i hi' 0 (by omega)).2
        have h00 := (hZ 0 (by omega) 0 (by omega)).2
        simp [Addr.add, World.cell?] at h00
        split at h00 <;> simp_all
    cases a; simp_all
  · have := block_lt_of_cell (hZ i hi' j hj).2
    unfold Addr.add at this
    split at this <;> exact this
  · have h1 := (hZ i hi' j hj).2
    have h0 := (hZ 0 (by omega) 0 (by omega)).2
    rw [← h1]
    congr 1
    unfold Addr.add
    split
    · rename_i h2
      obtain ⟨ab, ao, spo⟩ := a
      cases spo with
      | none => simp; omega
      | some s => simp [Addr.add, World.cell?] at h0; split at h0 <;> simp_all
    · simp [Nat.add_assoc]
end

/-- the rows so opened read as a list of whatever is made of their fields -/
theorem rdE_of_rows {α : Type} {w : World} {A : Option Addr} {n m : Nat} {Z : Nat → Nat → Int} (mk : (Nat → Int) → α) (enc : α → List Value) (hm : 0 < m)
    (henc : ∀ z : Nat → Int, ∀ j v, (enc (mk z))[j]? = some v → j < m ∧ v = .int .i64 (z j))
    (hZ : ∀ i, i < n → ∀ j, j < m → (Lit.int .i64 (Z i j)).wf = true ∧ ∃ b o, A = some ⟨b, o, none⟩ ∧ b < w.heap.size ∧ w.cell? ⟨b, o + i * m + j, none⟩ = some (.int .i64 (Z i j))) :
    RdE enc m w A ((List.range n).map fun i => mk (Z i)) := by
  intro i x hx
  have hi : i < n := by
    have := (List.getElem?_eq_some_iff.1 hx).1
    simpa using this
  have hx' : mk (Z i) = x := by simpa [hi] using hx
  subst hx'
  obtain ⟨_, b, o, e1, e2, _⟩ := hZ i hi 0 hm
  refine ⟨b, o, e1, e2, fun j v hv => ?_⟩
  obtain ⟨hj, rfl⟩ := henc _ _ _ hv
  obtain ⟨_, b', o', f1, _, f3⟩ := hZ i hi j hj
  obtain ⟨rfl, rfl⟩ : b = b' ∧ o = o' := by rw [e1] at f1; simpa using f1
  exact f3

/-- a slice of ints as rows of one -/
theorem open_int_list {H : Type} {enc : TypeId × Value → H} {P : Program} {w : World} {base : Nat} {spare : Nat → Bool} {held : Bool} {t e : TypeId} {fuel : Nat} {cs : List Value} {x : DataW H × List MemPlace}
    (ht : P.underlying t = some (.slice e)) (he : P.underlying e = some (.int .i64)) (hc : P.cellsOf e = 1)
    (h : DataW.trod enc P w base spare held fuel t cs = some x) :
    ∃ (A : Option Addr) (len cap : Nat) (Z : Nat → Nat → Int), cs = [.slice A len cap] ∧ len ≤ maxLen ∧ len ≤ cap ∧
      ∀ i, i < len → ∀ j, j < 1 → (Lit.int .i64 (Z i j)).wf = true ∧ ∃ b o, A = some ⟨b, o, none⟩ ∧ b < w.heap.size ∧ w.cell? ⟨b, o + i * 1 + j, none⟩ = some (.int .i64 (Z i j)) := by
  rcases open_ints ht he hc h with ⟨rfl, rfl⟩ | ⟨a, len, cap, zs, rfl, hb, hl, hm, hzl, hx, hat, hwf⟩
  · exact ⟨none, 0, 0, fun _ _ => 0, rfl, by omega, by omega, fun i hi => by omega⟩
  have hlz : len ≤ zs.length := by rw [hzl]; split <;> omega
  refine ⟨some a, len, cap, fun i _ => zs.getD i 0, rfl, by omega, hl, fun i hi j hj => ⟨hwf _ (by show zs.getD i 0 ∈ zs; rw [List.getD_eq_getElem?_getD, List.getElem?_eq_getElem (by omega)]; exact List.getElem_mem _), a.block, a.off, ?_, ?_, ?_⟩⟩
  · have h0 := hat 0 (by omega)
    obtain ⟨ab, ao, spo⟩ := a
    cases spo with
    | none => rfl
    | some s => simp [Addr.add, World.cell?] at h0; split at h0 <;> simp_all
  · have := block_lt_of_cell (hat i (by omega))
    unfold Addr.add at this
    split at this <;> exact this
  · have h0 := hat 0 (by omega)
    rw [← hat i (by omega)]
    congr 1
    obtain ⟨ab, ao, spo⟩ := a
    cases spo with
    | none =>
      obtain rfl : j = 0 := by omega
      simp [Addr.add]
    | some s => simp [Addr.add, World.cell?] at h0; split at h0 <;> simp_all
/-- and read as the list -/
theorem rdE_of_list {w : World} {A : Option Addr} {n : Nat} {Z : Nat → Nat → Int}
    (hZ : ∀ i, i < n → ∀ j, j < 1 → (Lit.int .i64 (Z i j)).wf = true ∧ ∃ b o, A = some ⟨b, o, none⟩ ∧ b < w.heap.size ∧ w.cell? ⟨b, o + i * 1 + j, none⟩ = some (.int .i64 (Z i j))) :
    RdE (fun z : Int => [.int .i64 z]) 1 w A ((List.range n).map fun i => Z i 0) :=
  rdE_of_rows (fun z => z 0) _ (by decide) (fun z j v hv => by
    match j, hv with
    | 0, hv => exact ⟨by decide, by simpa using hv.symm⟩
    | j + 1, hv => simp at hv) hZ

theorem own : ownKnob Try.prog.godebug = none := by kernel_rfl
theorem laidOut : laidOutB Try.prog = true := by kernel_rfl
end Go.Proofs.Ytiimjppceobkfaa

namespace Go.Proofs.Ytiimjppceobkfaa
open Go.RowKit

def peopleP (cs : List Cl) (i j : Nat) : Bool := decide ((cs.getD i default).who = (cs.getD j default).who) && decide (i < j)
def relPeople (cs : List Cl) : Nat → Nat := relN (peopleP cs) cs.length
theorem relPeople_done (cs : List Cl) : relN (fun i j => (fun _ _ => false) i j || peopleP cs i j) cs.length = relPeople cs := by simp [relPeople]
theorem relPeople_16 (cs : List Cl) (h : cs.length ≤ 16) (i : Nat) : relPeople cs i < 65536 := relN_lt _ h i
theorem relOk_people {ts : List Int} {cs : List Cl} (h : SeaOk ts cs) : RelOk cs (relPeople cs) := by
  intro i j hb
  unfold relPeople at hb
  rw [relN_bit, Bool.and_eq_true, Bool.and_eq_true, decide_eq_true_eq, decide_eq_true_eq] at hb
  obtain ⟨hi, hj, ha⟩ := hb
  unfold peopleP at ha
  rw [clD hi, clD hj, Bool.and_eq_true, decide_eq_true_eq, decide_eq_true_eq] at ha
  exact ⟨hi, hj, by omega, by rw [callAt_eq hi]; exact (h.tos.one i j ha.2 hj ha.1).1⟩
section
variable (A : Option Addr) (c : Nat) (cs : List Cl) (w : World) (hA : RdCl w A cs)
include hA
set_option maxRecDepth 100000 in
set_option maxHeartbeats 4000000 in
theorem programs_any (hl : cs.length ≤ 12) : Calls Try.prog 115 #[.slice A cs.length c] w fun e w' => e = .returned (.agg (relCells cs.length (relPeople cs))) ∧ Below w.heap.size w w' := by
  refine calls_T (S := []) [] Try.func115 rfl Try.ntmps115 (by simp) (Mem.nil _) ?_
  repeat' (first | (refine GO ?_) | (refine GOE ?_; (first | (rintro _ _ ⟨rfl, rfl⟩) | (rintro _ _ ⟨g, rfl, rfl⟩) | (rintro _ _ ⟨A', c', rfl, rfl⟩))) | ((refine GO2 ?_ ?_) <;> intro h <;> (try (repeat (first | with_reducible (replace h := of_decide_eq_true h) | with_reducible (replace h := of_decide_eq_false h) | with_reducible (replace h := bnt h) | with_reducible (replace h := bnf h) | with_reducible (replace h := Int.not_lt.mp h) | with_reducible (replace h := Int.not_le.mp h) | with_reducible (replace h := band_dec h) | with_reducible (replace h := band_decF h) | with_reducible (replace h := bor_dec h) | with_reducible (replace h := bor_decF h)))) <;> (try (exfalso; first | contradiction | omega))) | fail)
  rename_i g2
  obtain ⟨gr, rfl⟩ : ∃ x, x = g := ⟨_, rfl⟩
  refine T_loop (X := Nat) (fun k => [(13, .int .i64 (k : Nat)), (12, .int .i64 cs.length), (11, .slice A cs.length c), (3, .pointer (some ⟨gr, 0, none⟩)), (2, .pointer (some ⟨g2, 0, none⟩)), (0, .slice A cs.length c)])
    (fun k => [entBlk gr 69 (relCells cs.length (relN (orP (fun _ _ => false) (peopleP cs) k 0) cs.length)), entBlk g2 69 (relCells 0 (fun _ => 0))]) (fun k => k ≤ cs.length) (fun k => cs.length - k) 0 (by omega) (by (repeat (first | exact SubE.nil _ | refine SubE.cons rfl ?_))) (fun w hw => by rw [orP_0, relN_0]; exact hw) ?_
  intro k hk
  by_cases hkk : k < cs.length
  · obtain ⟨b, o, rfl, _⟩ := RdE.open hA (by omega)
    repeat' (first | (refine GO ?_) | (refine GOE ?_; (first | (rintro _ _ ⟨rfl, rfl⟩) | (rintro _ _ ⟨g, rfl, rfl⟩) | (rintro _ _ ⟨A', c', rfl, rfl⟩))) | ((refine GO2 ?_ ?_) <;> intro h <;> (try (repeat (first | with_reducible (replace h := of_decide_eq_true h) | with_reducible (replace h := of_decide_eq_false h) | with_reducible (replace h := bnt h) | with_reducible (replace h := bnf h) | with_reducible (replace h := Int.not_lt.mp h) | with_reducible (replace h := Int.not_le.mp h) | with_reducible (replace h := band_dec h) | with_reducible (replace h := band_decF h) | with_reducible (replace h := bor_dec h) | with_reducible (replace h := bor_decF h)))) <;> (try (exfalso; first | contradiction | omega))) | fail)
    obtain ⟨gm, rfl⟩ : ∃ x, x = g := ⟨_, rfl⟩
    refine T_loop (X := Nat) (fun m => [(20, .int .i64 (m : Nat)), (19, .int .i64 cs.length), (18, .slice (some ⟨b, o, none⟩) cs.length c), (5, .pointer (some ⟨gm, 0, none⟩)), (4, .int .i64 (k : Nat)), (13, .int .i64 (k : Nat)), (12, .int .i64 cs.length), (11, .slice (some ⟨b, o, none⟩) cs.length c), (3, .pointer (some ⟨gr, 0, none⟩)), (2, .pointer (some ⟨g2, 0, none⟩)), (0, .slice (some ⟨b, o, none⟩) cs.length c)])
      (fun m => [entBlk gm 76 cs[k].enc.toArray, entBlk gr 69 (relCells cs.length (relN (orP (fun _ _ => false) (peopleP cs) k m) cs.length)), entBlk g2 69 (relCells 0 (fun _ => 0))]) (fun m => m ≤ cs.length) (fun m => cs.length - m) 0 (by omega) (by (repeat (first | exact SubE.nil _ | refine SubE.cons rfl ?_))) (fun w hw => hw) ?_
    intro m hml
    by_cases hmm : m < cs.length
    · have hq : peopleP cs k m = (decide (cs[k].who = cs[m].who) && decide (k < m)) := by rw [peopleP, clD hkk, clD hmm]
      have hlt := relN_lt (orP (fun _ _ => false) (peopleP cs) k m) (n := cs.length) (by omega) k
      have hpm := pow_lt_16 (m := m) (by omega)
      have hyes := relN_yes (P := fun _ _ => false) (Q := peopleP cs) hkk hmm
      have hno := relN_no (P := fun _ _ => false) (Q := peopleP cs) (n := cs.length) (k := k) (m := m)
      obtain ⟨F, hFF⟩ : ∃ F, relN (orP (fun _ _ => false) (peopleP cs) k m) cs.length = F := ⟨_, rfl⟩
      rw [hFF] at hyes hno hlt ⊢
      repeat' (first | (refine GO ?_) | (refine GOE ?_; (first | (rintro _ _ ⟨rfl, rfl⟩) | (rintro _ _ ⟨g, rfl, rfl⟩) | (rintro _ _ ⟨A', c', rfl, rfl⟩))) | ((refine GO2 ?_ ?_) <;> intro h <;> (try (repeat (first | with_reducible (replace h := of_decide_eq_true h) | with_reducible (replace h := of_decide_eq_false h) | with_reducible (replace h := bnt h) | with_reducible (replace h := bnf h) | with_reducible (replace h := Int.not_lt.mp h) | with_reducible (replace h := Int.not_le.mp h) | with_reducible (replace h := band_dec h) | with_reducible (replace h := band_decF h) | with_reducible (replace h := bor_dec h) | with_reducible (replace h := bor_decF h)))) <;> (try (exfalso; first | contradiction | omega))) | fail)
      all_goals
        refine At_rounds (m + 1) (by omega) (by omega) (by (repeat (first | exact SubE.nil _ | refine SubE.cons rfl ?_))) (fun w hw => ?_)
        first
          | (rw [← hyes (by rw [hq, decide_eq_true (show cs[k].who = cs[m].who by assumption), decide_eq_true (show k < m by omega)]; rfl)]; exact hw.sub (by first | ((repeat (first | with_reducible exact List.nil_sublist _ | with_reducible exact List.Sublist.refl _ | with_reducible apply List.Sublist.cons_cons | with_reducible apply List.Sublist.cons)); done) | (repeat (first | exact List.nil_sublist _ | exact List.Sublist.refl _ | apply List.Sublist.cons_cons | apply List.Sublist.cons))))
          | (rw [← hno (by rw [hq, decide_eq_false (show ¬ cs[k].who = cs[m].who by assumption)]; rfl)]; exact hw.sub (by first | ((repeat (first | with_reducible exact List.nil_sublist _ | with_reducible exact List.Sublist.refl _ | with_reducible apply List.Sublist.cons_cons | with_reducible apply List.Sublist.cons)); done) | (repeat (first | exact List.nil_sublist _ | exact List.Sublist.refl _ | apply List.Sublist.cons_cons | apply List.Sublist.cons))))
          | (rw [← hno (by rw [hq, decide_eq_false (show ¬ k < m by omega)]; simp)]; exact hw.sub (by first | ((repeat (first | with_reducible exact List.nil_sublist _ | with_reducible exact List.Sublist.refl _ | with_reducible apply List.Sublist.cons_cons | with_reducible apply List.Sublist.cons)); done) | (repeat (first | exact List.nil_sublist _ | exact List.Sublist.refl _ | apply List.Sublist.cons_cons | apply List.Sublist.cons))))
    · obtain rfl : m = cs.length := by omega
      repeat' (first | (refine GO ?_) | (refine GOE ?_; (first | (rintro _ _ ⟨rfl, rfl⟩) | (rintro _ _ ⟨g, rfl, rfl⟩) | (rintro _ _ ⟨A', c', rfl, rfl⟩))) | ((refine GO2 ?_ ?_) <;> intro h <;> (try (repeat (first | with_reducible (replace h := of_decide_eq_true h) | with_reducible (replace h := of_decide_eq_false h) | with_reducible (replace h := bnt h) | with_reducible (replace h := bnf h) | with_reducible (replace h := Int.not_lt.mp h) | with_reducible (replace h := Int.not_le.mp h) | with_reducible (replace h := band_dec h) | with_reducible (replace h := band_decF h) | with_reducible (replace h := bor_dec h) | with_reducible (replace h := bor_decF h)))) <;> (try (exfalso; first | contradiction | omega))) | fail)
      refine At_rounds (k + 1) (by omega) (by omega) (by (repeat (first | exact SubE.nil _ | refine SubE.cons rfl ?_))) (fun w hw => ?_)
      rw [← relN_next]
      exact hw.sub (by first | ((repeat (first | with_reducible exact List.nil_sublist _ | with_reducible exact List.Sublist.refl _ | with_reducible apply List.Sublist.cons_cons | with_reducible apply List.Sublist.cons)); done) | (repeat (first | exact List.nil_sublist _ | exact List.Sublist.refl _ | apply List.Sublist.cons_cons | apply List.Sublist.cons)))
  · obtain rfl : k = cs.length := by omega
    repeat' (first | (refine GO ?_) | (refine GOE ?_; (first | (rintro _ _ ⟨rfl, rfl⟩) | (rintro _ _ ⟨g, rfl, rfl⟩) | (rintro _ _ ⟨A', c', rfl, rfl⟩))) | ((refine GO2 ?_ ?_) <;> intro h <;> (try (repeat (first | with_reducible (replace h := of_decide_eq_true h) | with_reducible (replace h := of_decide_eq_false h) | with_reducible (replace h := bnt h) | with_reducible (replace h := bnf h) | with_reducible (replace h := Int.not_lt.mp h) | with_reducible (replace h := Int.not_le.mp h) | with_reducible (replace h := band_dec h) | with_reducible (replace h := band_decF h) | with_reducible (replace h := bor_dec h) | with_reducible (replace h := bor_decF h)))) <;> (try (exfalso; first | contradiction | omega))) | fail)
    ((with_reducible apply At_retM Try.results115); (repeat (first | exact ResIs.nil | (apply ResIs.tmp; exact rfl) | (apply ResIs.cell; exact rfl; exact Lds.auto))); intro w' hw)
    exact ⟨by rw [← relPeople_done, ← relN_done]; rfl, hw.below0 rfl⟩
set_option maxRecDepth 100000 in
set_option maxHeartbeats 4000000 in
theorem peopleRel_any (hl : cs.length ≤ 12) : Calls Try.prog 52 #[.slice A cs.length c] w fun e w' => e = .returned (.agg (relCells cs.length (relPeople cs))) ∧ Below w.heap.size w w' := by
  refine calls_T (S := []) [] Try.func52 rfl Try.ntmps52 (by simp) (Mem.nil _) ?_
  repeat' (first | (refine GO ?_) | (refine GOE ?_; (first | (rintro _ _ ⟨rfl, rfl⟩) | (rintro _ _ ⟨g, rfl, rfl⟩) | (rintro _ _ ⟨A', c', rfl, rfl⟩))) | ((refine GO2 ?_ ?_) <;> intro h <;> (try (repeat (first | with_reducible (replace h := of_decide_eq_true h) | with_reducible (replace h := of_decide_eq_false h) | with_reducible (replace h := bnt h) | with_reducible (replace h := bnf h) | with_reducible (replace h := Int.not_lt.mp h) | with_reducible (replace h := Int.not_le.mp h) | with_reducible (replace h := band_dec h) | with_reducible (replace h := band_decF h) | with_reducible (replace h := bor_dec h) | with_reducible (replace h := bor_decF h)))) <;> (try (exfalso; first | contradiction | omega))) | fail)
  rename_i g2
  obtain ⟨gr, rfl⟩ : ∃ x, x = g := ⟨_, rfl⟩
  refine T_loop (X := Nat) (fun k => [(11, .int .i64 (k : Nat)), (10, .int .i64 cs.length), (3, .pointer (some ⟨gr, 0, none⟩)), (2, .pointer (some ⟨g2, 0, none⟩)), (0, .slice A cs.length c)])
    (fun k => [entBlk gr 69 (relCells cs.length (relN (orP (fun _ _ => false) (peopleP cs) k 0) cs.length)), entBlk g2 69 (relCells 0 (fun _ => 0))]) (fun k => k ≤ cs.length) (fun k => cs.length - k) 0 (by omega) (by (repeat (first | exact SubE.nil _ | refine SubE.cons rfl ?_))) (fun w hw => by rw [orP_0, relN_0]; exact hw) ?_
  intro k hk
  by_cases hkk : k < cs.length
  · obtain ⟨b, o, rfl, _⟩ := RdE.open hA (by omega)
    have e1 : (k : Int) + 1 = ((k + 1 : Nat) : Int) := by omega
    repeat' (first | (refine GO ?_) | (refine GOE ?_; (first | (rintro _ _ ⟨rfl, rfl⟩) | (rintro _ _ ⟨g, rfl, rfl⟩) | (rintro _ _ ⟨A', c', rfl, rfl⟩))) | ((refine GO2 ?_ ?_) <;> intro h <;> (try (repeat (first | with_reducible (replace h := of_decide_eq_true h) | with_reducible (replace h := of_decide_eq_false h) | with_reducible (replace h := bnt h) | with_reducible (replace h := bnf h) | with_reducible (replace h := Int.not_lt.mp h) | with_reducible (replace h := Int.not_le.mp h) | with_reducible (replace h := band_dec h) | with_reducible (replace h := band_decF h) | with_reducible (replace h := bor_dec h) | with_reducible (replace h := bor_decF h)))) <;> (try (exfalso; first | contradiction | omega))) | fail)
    refine T_loop (X := Nat) (fun m => [(5, .int .i64 (m : Nat)), (4, .int .i64 (k : Nat)), (11, .int .i64 (k : Nat)), (10, .int .i64 cs.length), (3, .pointer (some ⟨gr, 0, none⟩)), (2, .pointer (some ⟨g2, 0, none⟩)), (0, .slice (some ⟨b, o, none⟩) cs.length c)])
      (fun m => [entBlk gr 69 (relCells cs.length (relN (orP (fun _ _ => false) (peopleP cs) k m) cs.length)), entBlk g2 69 (relCells 0 (fun _ => 0))]) (fun m => k < m ∧ m ≤ cs.length) (fun m => cs.length - m) (k + 1) ⟨by omega, by omega⟩ (by (repeat (first | exact SubE.nil _ | refine SubE.cons rfl ?_)))
      (fun w hw => by rw [← relN_skip (P := fun _ _ => false) (Q := peopleP cs) (k := k) (m := 0) (m' := k + 1) (n := cs.length) (by omega) (fun j _ hj => by unfold peopleP; rw [decide_eq_false (show ¬ k < j by omega)]; simp)]; exact hw) ?_
    rintro m ⟨hkm, hml⟩
    by_cases hmm : m < cs.length
    · have hq : peopleP cs k m = (decide (cs[k].who = cs[m].who) && decide (k < m)) := by rw [peopleP, clD hkk, clD hmm]
      have hlt := relN_lt (orP (fun _ _ => false) (peopleP cs) k m) (n := cs.length) (by omega) k
      have hpm := pow_lt_16 (m := m) (by omega)
      have hyes := relN_add (P := fun _ _ => false) (Q := peopleP cs) hkk hmm
      have hno := relN_no (P := fun _ _ => false) (Q := peopleP cs) (n := cs.length) (k := k) (m := m)
      have hlt2 := fun h => congrArg (fun f => f k) (hyes h rfl)
      have hlt3 := relN_lt (orP (fun _ _ => false) (peopleP cs) k (m + 1)) (n := cs.length) (by omega) k
      obtain ⟨F, hFF⟩ : ∃ F, relN (orP (fun _ _ => false) (peopleP cs) k m) cs.length = F := ⟨_, rfl⟩
      rw [hFF] at hyes hno hlt hlt2 ⊢
      repeat' (first
        | (refine GG ?_) | (refine GE ?_; (first | (rintro _ _ ⟨rfl, rfl⟩) | (rintro _ _ ⟨g, rfl, rfl⟩) | (rintro _ _ ⟨A', c', rfl, rfl⟩)); (try refine ⟨SUB, ?_⟩)) | ((refine GO2 ?_ ?_) <;> intro h <;> (try (repeat (first | with_reducible (replace h := of_decide_eq_true h) | with_reducible (replace h := of_decide_eq_false h) | with_reducible (replace h := bnt h) | with_reducible (replace h := bnf h) | with_reducible (replace h := Int.not_lt.mp h) | with_reducible (replace h := Int.not_le.mp h) | with_reducible (replace h := band_dec h) | with_reducible (replace h := band_decF h) | with_reducible (replace h := bor_dec h) | with_reducible (replace h := bor_decF h)))) <;> (try (exfalso; first | contradiction | omega))) | (refine GOF ?_ ?_) | ((with_reducible apply T_draw (id := 8) 1000 (OT.seq [(0, 0), (0, 1), (0, 2), (0, 3), (0, 5), (0, 6), (0, 7), (0, 8), (1, 4), (1, 9), (0, 10)] .nil)); kernel_rfl; exact rfl; kernel_rfl; (repeat (first | with_reducible exact Blind.body | with_reducible apply Blind.seq | with_reducible apply Blind.block))) | ((with_reducible apply T_draw (id := 9) 9 (OT.seq [(0, 0), (0, 1), (0, 2), (0, 4), (0, 5), (0, 7), (1, 3), (0, 6), (0, 8), (3, 9)] .nil)); kernel_rfl; exact rfl; kernel_rfl; (repeat (first | with_reducible exact Blind.body | with_reducible apply Blind.seq | with_reducible apply Blind.block))) | ((with_reducible apply TD_q0); (with_reducible apply QS_add16); exact rfl; exact rfl; exact rfl) | ((with_reducible apply TD_q1); (with_reducible apply QS_add16); exact rfl; exact rfl; exact rfl) | fail)
      all_goals
        refine At_rounds (m + 1) ⟨by omega, by omega⟩ (by omega) (by (repeat (first | exact SubE.nil _ | refine SubE.cons rfl ?_))) (fun w hw => ?_)
        first
          | (have hQ : peopleP cs k m = true := by rw [hq, decide_eq_true (show cs[k].who = cs[m].who by assumption), decide_eq_true hkm]; rfl
             have h3 := hlt2 hQ
             simp only [upd_same] at h3
             rw [← hyes hQ rfl, show F k + 2 ^ m = (F k + 2 ^ m) % 65536 by rw [Nat.mod_eq_of_lt (by omega)]]
             exact hw)
          | (rw [← hno (by rw [hq, decide_eq_false (show ¬ cs[k].who = cs[m].who by assumption)]; rfl)]; exact hw)
    · obtain rfl : m = cs.length := by omega
      repeat' (first | (refine GG ?_) | (refine GE ?_; (first | (rintro _ _ ⟨rfl, rfl⟩) | (rintro _ _ ⟨g, rfl, rfl⟩) | (rintro _ _ ⟨A', c', rfl, rfl⟩)); (try refine ⟨SUB, ?_⟩)) | ((refine GO2 ?_ ?_) <;> intro h <;> (try (repeat (first | with_reducible (replace h := of_decide_eq_true h) | with_reducible (replace h := of_decide_eq_false h) | with_reducible (replace h := bnt h) | with_reducible (replace h := bnf h) | with_reducible (replace h := Int.not_lt.mp h) | with_reducible (replace h := Int.not_le.mp h) | with_reducible (replace h := band_dec h) | with_reducible (replace h := band_decF h) | with_reducible (replace h := bor_dec h) | with_reducible (replace h := bor_decF h)))) <;> (try (exfalso; first | contradiction | omega))) | (refine GOF ?_ ?_) | fail)
      refine At_rounds (k + 1) (by omega) (by omega) (by (repeat (first | exact SubE.nil _ | refine SubE.cons rfl ?_))) (fun w hw => ?_)
      rw [← relN_next]
      exact hw
  · obtain rfl : k = cs.length := by omega
    repeat' (first | (refine GG ?_) | (refine GE ?_; (first | (rintro _ _ ⟨rfl, rfl⟩) | (rintro _ _ ⟨g, rfl, rfl⟩) | (rintro _ _ ⟨A', c', rfl, rfl⟩)); (try refine ⟨SUB, ?_⟩)) | ((refine GO2 ?_ ?_) <;> intro h <;> (try (repeat (first | with_reducible (replace h := of_decide_eq_true h) | with_reducible (replace h := of_decide_eq_false h) | with_reducible (replace h := bnt h) | with_reducible (replace h := bnf h) | with_reducible (replace h := Int.not_lt.mp h) | with_reducible (replace h := Int.not_le.mp h) | with_reducible (replace h := band_dec h) | with_reducible (replace h := band_decF h) | with_reducible (replace h := bor_dec h) | with_reducible (replace h := bor_decF h)))) <;> (try (exfalso; first | contradiction | omega))) | (refine GOF ?_ ?_) | fail)
    ((with_reducible apply At_retM Try.results52); (repeat (first | exact ResIs.nil | (apply ResIs.tmp; exact rfl) | (apply ResIs.cell; exact rfl; exact Lds.auto))); intro w' hw)
    exact ⟨by rw [← relPeople_done, ← relN_done]; rfl, hw.below0 rfl⟩
end
end Go.Proofs.Ytiimjppceobkfaa

namespace Go.Proofs.Ytiimjppceobkfaa
open Go.RowKit

section
variable (A0 B0 D : Option Addr) (c0 d0 dc : Nat) (ts : List Int) (l : List Ev) (v : List Stp) (w : World) (hts : ts.length ≤ 9223372036854775807) (hl : l.length ≤ 9223372036854775807) (hv : v.length ≤ 9223372036854775807) (hT : RdInt w A0 ts) (hA : RdEv w B0 l) (hD : RdStp w D v)
include hts hl hT hA
include hv hD in
set_option maxRecDepth 100000 in
set_option maxHeartbeats 1000000 in
theorem seqRight_any : Calls Try.prog 50 #[.slice A0 ts.length c0, .slice B0 l.length d0, .slice D v.length dc] w fun e w' => e = .returned (.tuple #[.bool (rightS ts l relPeople v), .int .i64 (fewS ts l).2]) ∧ Below w.heap.size w w' := by
  have h1 := fun w h1 h2 => searchCalls_any A0 B0 c0 d0 ts l w hts hl h1 h2
  have hf := fewS_facts (ts := ts) (l := l)
  unfold rightS
  generalize fewS ts l = F at *
  obtain ⟨cs, er⟩ := F
  dsimp only at h1 hf ⊢
  refine calls_T (S := []) [] Try.func50 rfl Try.ntmps50 (by simp) (Mem.nil _) ?_
  by_cases h0 : er = 0
  · subst h0
    have hs := hf rfl
    have h9 := hs.few
    have hah := fun A c w' h => programs_any A c cs w' h (by omega)
    have hval := fun A c w' h1 h2 h3 => valid_any A0 A D c0 c dc ts cs cs.length (relPeople cs) v w' hs.types hs.calls h9 (fun i _ => relPeople_16 cs (by omega) i) h1 h2 h3 hv
    rw [if_pos rfl]
    generalize validW ts cs (relPeople cs) v = z at *
    repeat' (first | (refine GO ?_) | (refine GOE ?_; (first | (rintro _ _ ⟨rfl, rfl⟩) | (rintro _ _ ⟨g, rfl, rfl⟩) | (rintro _ _ ⟨A', c', rfl, rfl⟩))) | ((refine GO2 ?_ ?_) <;> intro h <;> (try (repeat (first | with_reducible (replace h := of_decide_eq_true h) | with_reducible (replace h := of_decide_eq_false h) | with_reducible (replace h := bnt h) | with_reducible (replace h := bnf h) | with_reducible (replace h := Int.not_lt.mp h) | with_reducible (replace h := Int.not_le.mp h) | with_reducible (replace h := band_dec h) | with_reducible (replace h := band_decF h) | with_reducible (replace h := bor_dec h) | with_reducible (replace h := bor_decF h)))) <;> (try (exfalso; first | contradiction | omega))) | ((with_reducible (first | apply TD_e2z | apply TD_e3z | apply TL_e | apply TD_e2 | apply TD_e3)); ((with_reducible apply ES_callOwn (f := 108)); exact rfl; (intro w hw; exact h1 w (hw.rd rfl hT) (hw.rd rfl hA)); exact rfl); (first | exact rfl | exact ⟨rfl, rfl, rfl⟩); (rintro _ _ ⟨A1, c1, rfl, rfl⟩); (try refine ⟨SUB, ?_⟩)) | ((with_reducible (first | apply TD_e2z | apply TD_e3z | apply TL_e | apply TD_e2 | apply TD_e3)); ((with_reducible apply ES_callV (f := 115)); exact rfl; (intro w hw; exact hah _ _ w (hw.ownRd (by first | ((repeat (first | with_reducible exact List.mem_cons_self | with_reducible apply List.mem_cons_of_mem)); done) | (repeat (first | exact List.Mem.head _ | apply List.Mem.tail))) (fun _ => rfl))); exact rfl); (first | exact rfl | exact ⟨rfl, rfl, rfl⟩); (rintro _ _ ⟨rfl, rfl⟩); (try refine ⟨SUB, ?_⟩)) | ((with_reducible (first | apply TD_e2z | apply TD_e3z | apply TL_e | apply TD_e2 | apply TD_e3)); ((with_reducible apply ES_callV (f := 114)); exact rfl; (intro w hw; exact hval _ _ w (hw.rd rfl hT) (hw.ownRd (by first | ((repeat (first | with_reducible exact List.mem_cons_self | with_reducible apply List.mem_cons_of_mem)); done) | (repeat (first | exact List.Mem.head _ | apply List.Mem.tail))) (fun _ => rfl)) (hw.rd rfl hD)); exact rfl); (first | exact rfl | exact ⟨rfl, rfl, rfl⟩); (rintro _ _ ⟨rfl, rfl⟩); (try refine ⟨SUB, ?_⟩)) | fail)
    (refine At_ret Try.results50 rfl (fun w' hw => ?_))
    exact ⟨rfl, hw.below0 rfl⟩
  · rw [if_neg h0]
    repeat' (first | (refine GO ?_) | (refine GOE ?_; (first | (rintro _ _ ⟨rfl, rfl⟩) | (rintro _ _ ⟨g, rfl, rfl⟩) | (rintro _ _ ⟨A', c', rfl, rfl⟩))) | ((refine GO2 ?_ ?_) <;> intro h <;> (try (repeat (first | with_reducible (replace h := of_decide_eq_true h) | with_reducible (replace h := of_decide_eq_false h) | with_reducible (replace h := bnt h) | with_reducible (replace h := bnf h) | with_reducible (replace h := Int.not_lt.mp h) | with_reducible (replace h := Int.not_le.mp h) | with_reducible (replace h := band_dec h) | with_reducible (replace h := band_decF h) | with_reducible (replace h := bor_dec h) | with_reducible (replace h := bor_decF h)))) <;> (try (exfalso; first | contradiction | omega))) | ((with_reducible (first | apply TD_e2z | apply TD_e3z | apply TL_e | apply TD_e2 | apply TD_e3)); ((with_reducible apply ES_callOwn (f := 108)); exact rfl; (intro w hw; exact h1 w (hw.rd rfl hT) (hw.rd rfl hA)); exact rfl); (first | exact rfl | exact ⟨rfl, rfl, rfl⟩); (rintro _ _ ⟨A1, c1, rfl, rfl⟩); (try refine ⟨SUB, ?_⟩)) | fail)
    (refine At_ret Try.results50 rfl (fun w' hw => ?_))
    exact ⟨rfl, hw.below0 rfl⟩
set_option maxRecDepth 100000 in
set_option maxHeartbeats 1000000 in
theorem seqFind_any : Calls Try.prog 51 #[.slice A0 ts.length c0, .slice B0 l.length d0] w fun e w' => ∃ A c, e = .returned (.tuple #[.slice A ((findS ts l relPeople).getD []).length c, .bool (findS ts l relPeople).isSome, .int .i64 (fewS ts l).2]) ∧
    Own Stp.enc 2 72 w' w.heap.size (.slice A ((findS ts l relPeople).getD []).length c) ((findS ts l relPeople).getD []) ∧ Below w.heap.size w w' := by
  have h1 := fun w h1 h2 => searchCalls_any A0 B0 c0 d0 ts l w hts hl h1 h2
  have hf := fewS_facts (ts := ts) (l := l)
  unfold findS
  generalize fewS ts l = F at *
  obtain ⟨cs, er⟩ := F
  dsimp only at h1 hf ⊢
  refine calls_T (S := []) [] Try.func51 rfl Try.ntmps51 (by simp) (Mem.nil _) ?_
  by_cases h0 : er = 0
  · subst h0
    have hs := hf rfl
    have h9 := hs.few
    have hah := fun A c w' h => programs_any A c cs w' h (by omega)
    have hsm := fun A c w' h1 h2 => smallest_any A0 A c0 c ts cs cs.length (relPeople cs) w' hs.types hs.calls h9 (fun i _ => relPeople_16 cs (by omega) i) h1 h2
    rw [if_pos rfl]
    generalize foundS ts cs (relPeople cs) = o at *
    repeat' (first | (refine GO ?_) | (refine GOE ?_; (first | (rintro _ _ ⟨rfl, rfl⟩) | (rintro _ _ ⟨g, rfl, rfl⟩) | (rintro _ _ ⟨A', c', rfl, rfl⟩))) | ((refine GO2 ?_ ?_) <;> intro h <;> (try (repeat (first | with_reducible (replace h := of_decide_eq_true h) | with_reducible (replace h := of_decide_eq_false h) | with_reducible (replace h := bnt h) | with_reducible (replace h := bnf h) | with_reducible (replace h := Int.not_lt.mp h) | with_reducible (replace h := Int.not_le.mp h) | with_reducible (replace h := band_dec h) | with_reducible (replace h := band_decF h) | with_reducible (replace h := bor_dec h) | with_reducible (replace h := bor_decF h)))) <;> (try (exfalso; first | contradiction | omega))) | ((with_reducible (first | apply TD_e2z | apply TD_e3z | apply TL_e | apply TD_e2 | apply TD_e3)); ((with_reducible apply ES_callOwn (f := 108)); exact rfl; (intro w hw; exact h1 w (hw.rd rfl hT) (hw.rd rfl hA)); exact rfl); (first | exact rfl | exact ⟨rfl, rfl, rfl⟩); (rintro _ _ ⟨A1, c1, rfl, rfl⟩); (try refine ⟨SUB, ?_⟩)) | ((with_reducible (first | apply TD_e2z | apply TD_e3z | apply TL_e | apply TD_e2 | apply TD_e3)); ((with_reducible apply ES_callV (f := 115)); exact rfl; (intro w hw; exact hah _ _ w (hw.ownRd (by first | ((repeat (first | with_reducible exact List.mem_cons_self | with_reducible apply List.mem_cons_of_mem)); done) | (repeat (first | exact List.Mem.head _ | apply List.Mem.tail))) (fun _ => rfl))); exact rfl); (first | exact rfl | exact ⟨rfl, rfl, rfl⟩); (rintro _ _ ⟨rfl, rfl⟩); (try refine ⟨SUB, ?_⟩)) | ((with_reducible (first | apply TD_e2z | apply TD_e3z | apply TL_e | apply TD_e2 | apply TD_e3)); ((with_reducible apply ES_callOwn (f := 110)); exact rfl; (intro w hw; exact hsm _ _ w (hw.rd rfl hT) (hw.ownRd (by first | ((repeat (first | with_reducible exact List.mem_cons_self | with_reducible apply List.mem_cons_of_mem)); done) | (repeat (first | exact List.Mem.head _ | apply List.Mem.tail))) (fun _ => rfl))); exact rfl); (first | exact rfl | exact ⟨rfl, rfl, rfl⟩); (rintro _ _ ⟨A5, c5, rfl, rfl⟩); (try refine ⟨SUB, ?_⟩)) | fail)
    (refine At_ret Try.results51 rfl (fun w' hw => ?_))
    exact ⟨A5, c5, rfl, hw.ownOut rfl (by first | ((repeat (first | with_reducible exact List.mem_cons_self | with_reducible apply List.mem_cons_of_mem)); done) | (repeat (first | exact List.Mem.head _ | apply List.Mem.tail))), hw.below0 rfl⟩
  · rw [if_neg h0]
    repeat' (first | (refine GO ?_) | (refine GOE ?_; (first | (rintro _ _ ⟨rfl, rfl⟩) | (rintro _ _ ⟨g, rfl, rfl⟩) | (rintro _ _ ⟨A', c', rfl, rfl⟩))) | ((refine GO2 ?_ ?_) <;> intro h <;> (try (repeat (first | with_reducible (replace h := of_decide_eq_true h) | with_reducible (replace h := of_decide_eq_false h) | with_reducible (replace h := bnt h) | with_reducible (replace h := bnf h) | with_reducible (replace h := Int.not_lt.mp h) | with_reducible (replace h := Int.not_le.mp h) | with_reducible (replace h := band_dec h) | with_reducible (replace h := band_decF h) | with_reducible (replace h := bor_dec h) | with_reducible (replace h := bor_decF h)))) <;> (try (exfalso; first | contradiction | omega))) | ((with_reducible (first | apply TD_e2z | apply TD_e3z | apply TL_e | apply TD_e2 | apply TD_e3)); ((with_reducible apply ES_callOwn (f := 108)); exact rfl; (intro w hw; exact h1 w (hw.rd rfl hT) (hw.rd rfl hA)); exact rfl); (first | exact rfl | exact ⟨rfl, rfl, rfl⟩); (rintro _ _ ⟨A1, c1, rfl, rfl⟩); (try refine ⟨SUB, ?_⟩)) | fail)
    (refine At_ret Try.results51 rfl (fun w' hw => ?_))
    exact ⟨none, 0, rfl, Own.nil _ _, hw.below0 rfl⟩
end
end Go.Proofs.Ytiimjppceobkfaa
