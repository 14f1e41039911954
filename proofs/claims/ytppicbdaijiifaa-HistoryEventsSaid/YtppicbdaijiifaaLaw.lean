/- From a walk that ends in 'true' and leaves what was there alone to a law's row; arguments read as lists. -/
import Derived.Test.YtppicbdaijiifaaRows
import Derived.Test.YtppicbdaijiifaaRead
import Derived.ProofKit
import Derived.Deep.Slices
import Derived.Deep.Fields
import Derived.Lib.SmallJoins
import Derived.ChangeSlices
set_option linter.unusedSimpArgs false
set_option linter.unusedVariables false
set_option linter.unusedSectionVars false
set_option linter.unnecessarySimpa false
namespace Go.Proofs.Ytppicbdaijiifaa
open Go.ChangeShapes Go.WideShapes Go.ChangeAt Go.RowKit Go.Deep

section
variable {H : Type} {enc : TypeId × Value → H} {P : Program}

/-- arguments read on as they read, where what was there is as it was -/
theorem trodAll_kept (hl : laidOutB P = true) {W W' : World} (hb : Below W.heap.size W W') {sp : Nat → Bool} :
    ∀ {ts : List TypeId} {vs : List Value} {ds : List (DataW H)} {p : List MemPlace}, (∀ t ∈ ts, P.readableRec t = true ∧ t < P.types.size) → (∀ x ∈ p, x.block < W.heap.size) → (∀ x ∈ p, sp x.block = true) →
      DataW.TrodAll enc P W 0 (fun _ => true) true ts vs ds p → DataW.TrodAll enc P W' 0 sp true ts vs ds p
  | [], _, _, _, _, _, _, h => by
    obtain ⟨rfl, rfl, rfl⟩ := trodAll_nil h
    exact trodAll_mk0
  | t :: ts, _, _, _, ht, hp, hs, h => by
    obtain ⟨v, vs, d, ds, a, b, rfl, rfl, rfl, h1, h2⟩ := trodAll_cons h
    obtain ⟨hr, hrow⟩ := ht t (List.mem_cons_self ..)
    refine ⟨a, b, WideElems.Trod_stays hl hr hrow h1 (fun x hx => hb.same (hp x (List.mem_append_left _ hx))) (fun x hx => hs x (List.mem_append_left _ hx)), ?_, rfl⟩
    exact trodAll_kept hl hb (fun t' h' => ht t' (List.mem_cons_of_mem _ h')) (fun x hx => hp x (List.mem_append_right _ hx)) (fun x hx => hs x (List.mem_append_right _ hx)) h2

/-- a law's row behind a walk that ends in 'true' -/
theorem law_post {f : Func} {s : ChangeSpec} {W W' : World} {args : Array Value} {tb : TypeId} {ds gs : List (DataW H)} {before : List MemPlace}
    (hl : laidOutB P = true) (hr : (f.params.toList.all fun t => P.readableRec t && decide (t < P.types.size)) = true) (hv : s.vars = []) (hrt : f.resultTypes = #[tb]) (htb : P.underlying tb = some .bool)
    (hW : DataW.Whole enc P f.params.toList s.vars false W args.toList ds gs before)
    (hs : gs = [] → s.fn H (ds ++ gs) = { results := [.lit (.bool true)], args := ds })
    (hb : Below W.heap.size W W') : s.post enc P f false true false false W args (.bool true) W' := by
  have hlt : ∀ p ∈ before, p.block < W.heap.size := fun p hp => hW.lt p hp
  have hW' := hW
  obtain ⟨p, q, hA, hV, rfl, hfz, hnd⟩ := hW
  rw [hv] at hV
  obtain ⟨rfl, rfl⟩ := trodVars_none hV
  simp only [List.append_nil] at hlt
  have hf := hs rfl
  have hfv : (s.fn H (ds ++ [])).vars = [] := by rw [hf]
  have hr' : ∀ t ∈ f.params.toList, P.readableRec t = true ∧ t < P.types.size := fun t ht => by
    have := List.all_eq_true.1 hr t ht
    simpa using this
  refine ⟨ds, [], p ++ [], [], p, [], hW', ?_, ?_, ?_, ?_, fun h => by cases h⟩
  · rw [hf, hrt]
    exact trodAll_mk1 (shut_bool htb _)
  · rw [hf]
    exact trodAll_kept hl hb hr' hlt (fun x hx => by simpa using hlt x hx) hA
  · rw [hv, hfv]; exact rfl
  · exact hb.frame _

/-- a slice of structs whose fields are all ints: each field of each element by its place -/
theorem open_int_rows {w : World} {base : Nat} {spare : Nat → Bool} {held : Bool} {t e ti : TypeId} {fs : Array Field} {fuel : Nat} {cs : List Value} {x : DataW H × List MemPlace}
    (ht : P.underlying t = some (.slice e)) (he : P.underlying e = some (.struct fs)) (hone : oneCellFields P fs = true) (hC : P.cellsOf e = fs.size) (hti : P.underlying ti = some (.int .i64)) (hfs : (fs.toList.all fun f => f.type == ti) = true)
    (h : DataW.trod enc P w base spare held fuel t cs = some x) :
    ∃ (A : Option Addr) (len cap : Nat) (Z : Nat → Nat → Int), cs = [.slice A len cap] ∧ len ≤ maxLen ∧ len ≤ cap ∧
      ∀ i, i < len → ∀ j, j < fs.size → (Lit.int .i64 (Z i j)).wf = true ∧ ∃ b o, A = some ⟨b, o, none⟩ ∧ b < w.heap.size ∧ w.cell? ⟨b, o + i * fs.size + j, none⟩ = some (.int .i64 (Z i j)) := by
  rcases open_slice ht h with ⟨rfl, rfl⟩ | ⟨a, len, cap, m, n, D, Pl, rfl, hb, hl, hm, hmm, hx, hi⟩
  · exact ⟨none, 0, 0, fun _ _ => 0, rfl, by omega, by omega, fun i hi => by omega⟩
  have hlm : len ≤ m := by rw [hmm]; split <;> omega
  have key : ∀ i, i < len → ∀ j, j < fs.size → ∃ z, (Lit.int .i64 z).wf = true ∧ w.cell? (a.add (i * fs.size + j)) = some (.int .i64 z) := by
    intro i hil j hj
    obtain ⟨cs', hc, htr⟩ := hi i (by omega)
    rw [hC] at hc
    obtain ⟨ys, n', _, _, hlen, _, hf⟩ := DataW.trod_struct he htr
    obtain ⟨_, _, hat⟩ := World.cells?_some hc
    obtain ⟨ho, hk⟩ := hone_of hone j fs[j] (by simp [hj])
    have hty : fs[j].type = ti := by
      have := List.all_eq_true.1 hfs fs[j] (by simp)
      simpa using this
    have h1 := hf j fs[j] (by simp [hj])
    rw [ho, hk] at h1
    have hl' : cs'.length = fs.size := by rw [hlen, hC]
    have hd : (cs'.drop j).take 1 = [cs'[j]'(by omega)] := by
      rw [List.drop_eq_getElem_cons (by omega)]
      rfl
    rw [hd, hty] at h1
    have hys : ys[j]? = some (ys[j]'(by omega)) := List.getElem?_eq_getElem (by omega)
    obtain ⟨z, hz1, _, hwf⟩ := DataW.trod_int hti (h1.trans hys)
    refine ⟨z, hwf, ?_⟩
    rw [← Go.Deep.add_add, hat j hj, List.getElem?_eq_getElem (by omega)]
    simpa using hz1
  have hfun : ∃ Z : Nat → Nat → Int, ∀ i, i < len → ∀ j, j < fs.size → (Lit.int .i64 (Z i j)).wf = true ∧ w.cell? (a.add (i * fs.size + j)) = some (.int .i64 (Z i j)) := by
    classical
    refine ⟨fun i j => if hh : i < len ∧ j < fs.size then Classical.choose (key i hh.1 j hh.2) else 0, fun i hi' j hj => ?_⟩
    simp only [dif_pos (show i < len ∧ j < fs.size from ⟨hi', hj⟩)]
    exact Classical.choose_spec (key i hi' j hj)
  obtain ⟨Z, hZ⟩ := hfun
  refine ⟨some a, len, cap, Z, rfl, by omega, hl, fun i hi' j hj => ⟨(hZ i hi' j hj).1, a.block, a.off, ?_, ?_, ?_⟩⟩
  · have := (hZ i hi' j hj).2
    have hsp : a.spot = none := by
      obtain ⟨ab, ao, spo⟩ := a
      cases spo with
      | none => rfl
      | some s =>
        have h0 := (hZ i hi' 0 (by omega)).2
        have h00 := (hZ 0 (by omega) 0 (by omega)).2
        simp [Addr.add, World.cell?] at h00
        split at h00 <;> simp_all
    cases a; simp_all
  · have := block_lt_of_cell (hZ i hi' j hj).2
    unfold Addr.add at this
    split at this <;> exact this
  · have h1 := (hZ i hi' j hj).2
    have h0 := (hZ 0 (by omega) 0 (by omega)).2
    rw [← h1]
    congr 1
    unfold Addr.add
    split
    · rename_i h2
      obtain ⟨ab, ao, spo⟩ := a
      cases spo with
      | none => simp; omega
      | some s => simp [Addr.add, World.cell?] at h0; split at h0 <;> simp_all
    · simp [Nat.add_assoc]
end

/-- the rows so opened read as a list of whatever is made of their fields -/
theorem rdE_of_rows {α : Type} {w : World} {A : Option Addr} {n m : Nat} {Z : Nat → Nat → Int} (mk : (Nat → Int) → α) (enc : α → List Value) (hm : 0 < m)
    (henc : ∀ z : Nat → Int, ∀ j v, (enc (mk z))[j]? = some v → j < m ∧ v = .int .i64 (z j))
    (hZ : ∀ i, i < n → ∀ j, j < m → (Lit.int .i64 (Z i j)).wf = true ∧ ∃ b o, A = some ⟨b, o, none⟩ ∧ b < w.heap.size ∧ w.cell? ⟨b, o + i * m + j, none⟩ = some (.int .i64 (Z i j))) :
    RdE enc m w A ((List.range n).map fun i => mk (Z i)) := by
  intro i x hx
  have hi : i < n := by
    have := (List.getElem?_eq_some_iff.1 hx).1
    simpa using this
  have hx' : mk (Z i) = x := by simpa [hi] using hx
  subst hx'
  obtain ⟨_, b, o, e1, e2, _⟩ := hZ i hi 0 hm
  refine ⟨b, o, e1, e2, fun j v hv => ?_⟩
  obtain ⟨hj, rfl⟩ := henc _ _ _ hv
  obtain ⟨_, b', o', f1, _, f3⟩ := hZ i hi j hj
  obtain ⟨rfl, rfl⟩ : b = b' ∧ o = o' := by rw [e1] at f1; simpa using f1
  exact f3

/-- a slice of ints as rows of one -/
theorem open_int_list {H : Type} {enc : TypeId × Value → H} {P : Program} {w : World} {base : Nat} {spare : Nat → Bool} {held : Bool} {t e : TypeId} {fuel : Nat} {cs : List Value} {x : DataW H × List MemPlace}
    (ht : P.underlying t = some (.slice e)) (he : P.underlying e = some (.int .i64)) (hc : P.cellsOf e = 1)
    (h : DataW.trod enc P w base spare held fuel t cs = some x) :
    ∃ (A : Option Addr) (len cap : Nat) (Z : Nat → Nat → Int), cs = [.slice A len cap] ∧ len ≤ maxLen ∧ len ≤ cap ∧
      ∀ i, i < len → ∀ j, j < 1 → (Lit.int .i64 (Z i j)).wf = true ∧ ∃ b o, A = some ⟨b, o, none⟩ ∧ b < w.heap.size ∧ w.cell? ⟨b, o + i * 1 + j, none⟩ = some (.int .i64 (Z i j)) := by
  rcases open_ints ht he hc h with ⟨rfl, rfl⟩ | ⟨a, len, cap, zs, rfl, hb, hl, hm, hzl, hx, hat, hwf⟩
  · exact ⟨none, 0, 0, fun _ _ => 0, rfl, by omega, by omega, fun i hi => by omega⟩
  have hlz : len ≤ zs.length := by rw [hzl]; split <;> omega
  refine ⟨some a, len, cap, fun i _ => zs.getD i 0, rfl, by omega, hl, fun i hi j hj => ⟨hwf _ (by show zs.getD i 0 ∈ zs; rw [List.getD_eq_getElem?_getD, List.getElem?_eq_getElem (by omega)]; exact List.getElem_mem _), a.block, a.off, ?_, ?_, ?_⟩⟩
  · have h0 := hat 0 (by omega)
    obtain ⟨ab, ao, spo⟩ := a
    cases spo with
    | none => rfl
    | some s => simp [Addr.add, World.cell?] at h0; split at h0 <;> simp_all
  · have := block_lt_of_cell (hat i (by omega))
    unfold Addr.add at this
    split at this <;> exact this
  · have h0 := hat 0 (by omega)
    rw [← hat i (by omega)]
    congr 1
    obtain ⟨ab, ao, spo⟩ := a
    cases spo with
    | none =>
      obtain rfl : j = 0 := by omega
      simp [Addr.add]
    | some s => simp [Addr.add, World.cell?] at h0; split at h0 <;> simp_all
/-- and read as the list -/
theorem rdE_of_list {w : World} {A : Option Addr} {n : Nat} {Z : Nat → Nat → Int}
    (hZ : ∀ i, i < n → ∀ j, j < 1 → (Lit.int .i64 (Z i j)).wf = true ∧ ∃ b o, A = some ⟨b, o, none⟩ ∧ b < w.heap.size ∧ w.cell? ⟨b, o + i * 1 + j, none⟩ = some (.int .i64 (Z i j))) :
    RdE (fun z : Int => [.int .i64 z]) 1 w A ((List.range n).map fun i => Z i 0) :=
  rdE_of_rows (fun z => z 0) _ (by decide) (fun z j v hv => by
    match j, hv with
    | 0, hv => exact ⟨by decide, by simpa using hv.symm⟩
    | j + 1, hv => simp at hv) hZ

theorem own : ownKnob Try.prog.godebug = none := by kernel_rfl
theorem laidOut : laidOutB Try.prog = true := by kernel_rfl
end Go.Proofs.Ytppicbdaijiifaa
