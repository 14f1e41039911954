/- What is known of memory, and the rules that read it, write it and make it. No condition. -/
import Derived.Test.YtppicbdaijiifaaT2
set_option linter.unusedSimpArgs false
set_option linter.unusedVariables false
set_option linter.unusedSectionVars false
set_option linter.unnecessarySimpa false
namespace Go.Proofs.Ytppicbdaijiifaa
open Go.RowKit

/-- a block known whole -/
def entBlk (g t : Nat) (cs : Array Value) : Ent := ⟨fun k => some g = some k, [g], fun k => by simp [eq_comm], fun w => Blk w g t cs, fun _ _ h hp => (h g rfl).trans hp⟩
/-- a slice of the call's own, as a list of items of M cells -/
def entOwn {α : Type} (enc : α → List Value) (M e : Nat) (A : Option Addr) (c : Nat) (l : List α) : Ent :=
  ⟨fun k => (Value.slice A l.length c).ownBlock = some k, (Value.slice A l.length c).ownBlock.toList, fun k => by simp [Option.mem_toList], fun w => Own enc M e w 0 (.slice A l.length c) l, fun w w' h hp => by
    refine ⟨hp.1, ?_⟩
    rcases hp.2 with hn | ⟨g, cap, cur, hv, hbb, hg, rest⟩
    · exact .inl hn
    · refine .inr ⟨g, cap, cur, hv, hbb, (h g ?_).trans hg, rest⟩
      rw [hv]; rfl⟩
theorem Own.base {α : Type} {enc : α → List Value} {M e : Nat} {w : World} {B : Nat} {v : Value} {l : List α} (h : Own enc M e w B v l) : Own enc M e w 0 v l := by
  refine ⟨h.1, ?_⟩
  rcases h.2 with hn | ⟨g, cap, cur, hv, hbb, rest⟩
  · exact .inl hn
  · exact .inr ⟨g, cap, cur, hv, Nat.zero_le _, rest⟩
theorem Own.form {α : Type} {enc : α → List Value} {M e : Nat} {w : World} {B : Nat} {v : Value} {l : List α} (h : Own enc M e w B v l) : ∃ A c, v = .slice A l.length c := by
  rcases h.2 with ⟨hv, hn⟩ | ⟨g, cap, cur, hv, _⟩
  · exact ⟨none, 0, by rw [hv, hn]⟩
  · exact ⟨_, _, hv⟩

section
variable {P : Program} {C : Ctx} {Q : Exit → Act → World → Prop} {E : Slots} {S S' : List Ent} {l rest : List Oper}
variable {d ty ty2 : Nat} {ps : String} {af : Array Edge} {g0 : Option (Nat × Bool)}
variable {x y z : Operand} {v u : Value} {g o c n m e len i f off s t : Nat} {cs cs' : Array Value}

theorem relCells_onesL (n : Int) (f : Nat → Nat) : (relCells n f).toList.all (·.oneCell') = true := by
  have := relCells_one n f
  simpa using this
/-! Reading -/
theorem Lds.blk [OneCell P s] (hm : entBlk g t cs ∈ S) (hc : nthV cs.toList o = some v) : Lds P C S s ⟨g, o, none⟩ v :=
  Lds.one fun w hw => ((hw.holds _ hm).1 : Blk w g t cs).cell o |>.trans (by rw [← hc, ← nthV_eq]; simp)
theorem relCells_nV (n : Int) (f : Nat → Nat) : nthV (relCells n f).toList 0 = some (.int .i64 n) := by rw [← nthV_eq]; simpa using relCells_n n f
theorem relCells_atV (n : Int) (f : Nat → Nat) (i : Nat) (h : i < 12) : nthV (relCells n f).toList (1 + i) = some (.int .u16 (f i)) := by rw [← nthV_eq]; simpa using relCells_at n f i h
theorem Lds.whole [hs : AggOf P s m] (hm : entBlk g t cs ∈ S) (hc : cs.size = m) : Lds P C S s ⟨g, 0, none⟩ (.agg cs) := by
  have := Lds.agg (P := P) (C := C) (S := S) (s := s) (g := g) (o := 0) (cs := cs.toList) (by simpa using hc) (fun w hw j u hu => by
    have hb : Blk w g t cs := (hw.holds _ hm).1
    rw [hb.cell]
    simpa using hu)
  simpa using this
theorem Lds.mid [hs : AggOf P s m] {us : List Value} (hm : entBlk g t cs ∈ S) (hc : (cs.toList.drop o).take m = us) (hl : us.length = m) : Lds P C S s ⟨g, o, none⟩ (.agg us.toArray) := by
  refine Lds.agg hl (fun w hw j u hu => ?_)
  have hb : Blk w g t cs := (hw.holds _ hm).1
  rw [hb.cell]
  have hj : j < m := by rw [← hl]; exact (List.getElem?_eq_some_iff.1 hu).1
  rw [← hc, List.getElem?_take, if_pos hj, List.getElem?_drop] at hu
  simpa using hu
section
variable {α : Type} {enc : α → List Value} {M : Nat} {ls : List α} {A : Option Addr} {j : Nat}
theorem Own.cellAt {w : World} (h : Own enc M e w 0 (.slice (some ⟨g, 0, none⟩) ls.length c) ls) (hM : ∀ x, (enc x).length = M) (hj : j < ls.length) (hv : (enc ls[j])[off]? = some v) : w.cell? ⟨g, j * M + off, none⟩ = some v := by
  obtain ⟨g', c', hv', _, _, hc, _⟩ := h.at_ hM j hj
  simp only [Value.slice.injEq, Option.some.injEq, Addr.mk.injEq, and_true, true_and] at hv'
  obtain ⟨rfl, rfl⟩ := hv'
  exact hc off v hv
/-- its blocks are known once something lies in it -/
theorem At.openOwn {K : Act → World → Prop} (hm : entOwn enc M e A c ls ∈ S) (hl : 0 < ls.length) (h : ∀ g, A = some ⟨g, 0, none⟩ → At C K E S) : At C K E S := by
  refine ⟨fun a w ha hw => ?_⟩
  have ho : Own enc M e w 0 (.slice A ls.length c) ls := (hw.holds _ hm).1
  rcases ho.2 with ⟨hn, h0⟩ | ⟨g, cap, cur, hv, _⟩
  · omega
  · simp only [Value.slice.injEq] at hv
    exact (h g hv.1).run a w ha hw
theorem T_own {code : Code} (hm : entOwn enc M e A c ls ∈ S) (hl : 0 < ls.length) (h : ∀ g, A = some ⟨g, 0, none⟩ → T P C code Q E S) : T P C code Q E S :=
  ⟨fun a w ha hw => by
    have ho : Own enc M e w 0 (.slice A ls.length c) ls := (hw.holds _ hm).1
    rcases ho.2 with ⟨hn, h0⟩ | ⟨g, cap, cur, hv, _⟩
    · omega
    · simp only [Value.slice.injEq] at hv
      exact (h g hv.1).run a w ha hw⟩
theorem Lds.own [OneCell P s] (hm : entOwn enc M e (some ⟨g, 0, none⟩) c ls ∈ S) (hM : ∀ x, (enc x).length = M) (hj : j < ls.length) (hv : (enc ls[j])[off]? = some v) : Lds P C S s ⟨g, j * M + off, none⟩ v :=
  Lds.one fun w hw => by exact Own.cellAt (hw.holds _ hm).1 hM hj hv
theorem Lds.own0 [OneCell P s] (hm : entOwn enc M e (some ⟨g, 0, none⟩) c ls ∈ S) (hM : ∀ x, (enc x).length = M) (hj : j < ls.length) (hv : (enc ls[j])[0]? = some v) : Lds P C S s ⟨g, j * M, none⟩ v :=
  Lds.one fun w hw => by have := Own.cellAt (hw.holds _ hm).1 hM hj hv; simpa using this
theorem Lds.ownAgg [AggOf P s M] (hm : entOwn enc M e (some ⟨g, 0, none⟩) c ls ∈ S) (hM : ∀ x, (enc x).length = M) (hj : j < ls.length) : Lds P C S s ⟨g, j * M, none⟩ (.agg (enc ls[j]).toArray) :=
  Lds.agg (hM _) fun w hw k u hu => by exact Own.cellAt (hw.holds _ hm).1 hM hj hu
theorem Lds.own1 [OneCell P s] (hm : entOwn enc 1 e (some ⟨g, 0, none⟩) c ls ∈ S) (hM : ∀ x, (enc x).length = 1) (hj : j < ls.length) (hv : (enc ls[j])[0]? = some v) : Lds P C S s ⟨g, j, none⟩ v :=
  Lds.one fun w hw => by have := Own.cellAt (hw.holds _ hm).1 hM hj hv; simpa using this
/-! what the call was handed -/
theorem Mem.old {w : World} (h : Mem C w S) {b k : Nat} {v : Value} (hb : b < C.w0.heap.size) (hF : b ∉ C.F) (hc : C.w0.cell? ⟨b, k, none⟩ = some v) : w.cell? ⟨b, k, none⟩ = some v :=
  (World.cell?_of_block (h.keeps.block b hb hF)).trans hc
theorem RdE.cellAt {w : World} (h : RdE enc M w (some ⟨g, o, none⟩) ls) (hj : j < ls.length) (hv : (enc ls[j])[off]? = some v) : g < w.heap.size ∧ w.cell? ⟨g, o + j * M + off, none⟩ = some v := by
  obtain ⟨b, o', h1, h2, h3⟩ := h j ls[j] (by simp [hj])
  simp only [Option.some.injEq, Addr.mk.injEq, and_true] at h1
  obtain ⟨rfl, rfl⟩ := h1
  exact ⟨h2, h3 off v hv⟩
theorem RdE.open {w : World} (h : RdE enc M w A ls) (hl : 0 < ls.length) : ∃ b o, A = some ⟨b, o, none⟩ ∧ b < w.heap.size := by
  obtain ⟨b, o', h1, h2, h3⟩ := h 0 ls[0] (by simp [hl])
  exact ⟨b, o', h1, h2⟩
theorem Lds.rd [OneCell P s] (h : RdE enc M C.w0 (some ⟨g, o, none⟩) ls) (hF : g ∉ C.F) (hj : j < ls.length) (hv : (enc ls[j])[off]? = some v) : Lds P C S s ⟨g, o + j * M + off, none⟩ v :=
  Lds.one fun w hw => hw.old (h.cellAt hj hv).1 hF (h.cellAt hj hv).2
theorem Lds.rd0 [OneCell P s] (h : RdE enc M C.w0 (some ⟨g, o, none⟩) ls) (hF : g ∉ C.F) (hj : j < ls.length) (hv : (enc ls[j])[0]? = some v) : Lds P C S s ⟨g, o + j * M, none⟩ v :=
  Lds.rd (off := 0) h hF hj hv
theorem Lds.rd1 [OneCell P s] (h : RdE enc 1 C.w0 (some ⟨g, o, none⟩) ls) (hF : g ∉ C.F) (hj : j < ls.length) (hv : (enc ls[j])[0]? = some v) : Lds P C S s ⟨g, o + j, none⟩ v := by
  have := Lds.rd (P := P) (S := S) (s := s) (off := 0) h hF hj hv
  simpa using this
theorem Lds.rdAgg [AggOf P s M] (h : RdE enc M C.w0 (some ⟨g, o, none⟩) ls) (hM : ∀ x, (enc x).length = M) (hF : g ∉ C.F) (hj : j < ls.length) : Lds P C S s ⟨g, o + j * M, none⟩ (.agg (enc ls[j]).toArray) :=
  Lds.agg (hM _) fun w hw k u hu => hw.old (h.cellAt hj hu).1 hF (h.cellAt hj hu).2

theorem Lds.rdz [OneCell P s] (h : RdE enc M C.w0 (some ⟨g, o, none⟩) ls) (hF : g ∉ C.F) (hj : 0 < ls.length) (hv : (enc ls[0])[0]? = some v) : Lds P C S s ⟨g, o, none⟩ v := by
  have := Lds.rd (P := P) (S := S) (s := s) (j := 0) (off := 0) h hF hj hv
  simpa using this
/-! Making -/
theorem cells_agg (cs : Array Value) : (Value.agg cs).cells = cs := rfl
theorem ES_alloc [hz : ZeroOf P t v] (hcs : v.cells = cs) (hd : Nat.ble (d + 1) C.n = true) : ES P C E S ⟨some d, .alloc t, ty, ps, af, g0⟩ (fun E' S' => ∃ g, E' = (d, .pointer (some ⟨g, 0, none⟩)) :: E ∧ S' = entBlk g t cs :: S) := by
  refine (ES_core (fun u S' => ∃ g, u = .pointer (some ⟨g, 0, none⟩) ∧ S' = entBlk g t cs :: S) (fun a w ha hw => ?_) hd).weak (by rintro _ _ ⟨_, ⟨g, rfl, rfl⟩, rfl⟩; exact ⟨g, rfl, rfl⟩)
  refine ⟨_, _, _, ?_, hw.alloc (.cells cs t) (e := entBlk w.heap.size t cs) (fun _ h => h) (Blk.new _ _ _), _, rfl, rfl⟩
  simp [execOp, Instr.alloc, hz.run w, newVar, newRow, hcs]
theorem ES_box (hx : evo E x = some v) (hcs : v.cells = cs) (hd : Nat.ble (d + 1) C.n = true) : ES P C E S ⟨some d, .box t x, ty, ps, af, g0⟩ (fun E' S' => ∃ g, E' = (d, .pointer (some ⟨g, 0, none⟩)) :: E ∧ S' = entBlk g t cs :: S) := by
  refine (ES_core (fun u S' => ∃ g, u = .pointer (some ⟨g, 0, none⟩) ∧ S' = entBlk g t cs :: S) (fun a w ha hw => ?_) hd).weak (by rintro _ _ ⟨_, ⟨g, rfl, rfl⟩, rfl⟩; exact ⟨g, rfl, rfl⟩)
  refine ⟨_, _, _, ?_, hw.alloc (.cells cs t) (e := entBlk w.heap.size t cs) (fun _ h => h) (Blk.new _ _ _), _, rfl, rfl⟩
  simp [execOp, Instr.box, ha.evo hx, newVar, newRow, hcs]
/-! a literal: its parts -/
def partsOf (E : Slots) : List (Nat × Operand) → Option (List (Nat × Value))
  | [] => some []
  | (i, x) :: r => match evo E x, partsOf E r with
    | some v, some vs => some ((i, v) :: vs)
    | _, _ => none
theorem partsOf_eq {a : Act} (ha : Env C.n a E) : ∀ {ps : List (Nat × Operand)} {vs}, partsOf E ps = some vs → ps.map (fun (i, x) => (i, a.eval x)) = vs
  | [], vs, h => by cases h; rfl
  | (i, x) :: r, vs, h => by
    simp only [partsOf] at h
    split at h
    · rename_i v us hx hr
      cases h
      simp [ha.evo hx, partsOf_eq ha hr]
    · cases h
theorem QS_build {parts : List (Nat × Operand)} {vs : List (Nat × Value)} (hp : partsOf E parts = some vs) (hb : P.built t vs = some cs) : QS P C E S (.build t parts.toArray) ty (.agg cs) :=
  QS.of (fun a w ha _ => by
    have h1 := partsOf_eq ha hp
    have := run_build (P := P) w t (parts.toArray.map fun (i, x) => (i, a.eval x)) cs (by simpa [h1] using hb)
    simp only [execOp, this, Sem.run_bind, Result.andThen_ok]; rfl)
def partsSeq (E : Slots) : Nat → List (Nat × Operand) → Option (List Value)
  | _, [] => some []
  | k, (i, x) :: r => match Nat.beq i k, evo E x, partsSeq E (k + 1) r with
    | true, some v, some vs => some (v :: vs)
    | _, _, _ => none
def seqV : Nat → List Value → List (Nat × Value)
  | _, [] => []
  | k, v :: vs => (k, v) :: seqV (k + 1) vs
theorem partsSeq_eq {a : Act} (ha : Env C.n a E) : ∀ {k : Nat} {ps : List (Nat × Operand)} {vs}, partsSeq E k ps = some vs → ps.map (fun (i, x) => (i, a.eval x)) = seqV k vs ∧ ps.length = vs.length
  | k, [], vs, h => by cases h; exact ⟨rfl, rfl⟩
  | k, (i, x) :: r, vs, h => by
    simp only [partsSeq] at h
    split at h
    · rename_i hb v us hi hx hr
      cases h
      have := Nat.eq_of_beq_eq_true hi
      subst this
      obtain ⟨h1, h2⟩ := partsSeq_eq ha hr
      simp [ha.evo hx, h1, h2, seqV]
    · cases h
/-- the cells of a row of values -/
def cellsOf : List Value → List Value
  | [] => []
  | v :: vs => v.cells.toList ++ cellsOf vs
def sizesOk (m : Nat) : List Value → Bool
  | [] => true
  | v :: vs => Nat.beq v.cells.size m && sizesOk m vs
theorem foldl_setCells (v : Array Value) : ∀ (l : List Value) (off j0 : Nat) (cs : List Value), off + j0 + l.length ≤ cs.length →
    ((l.zipIdx j0).foldl (fun (cs : Array Value) (p : Value × Nat) => cs.setIfInBounds (off + p.2) p.1) cs.toArray) = (cs.take (off + j0) ++ l ++ cs.drop (off + j0 + l.length)).toArray
  | [], off, j0, cs, h => by simp
  | u :: l, off, j0, cs, h => by
    simp only [List.zipIdx_cons, List.foldl_cons, List.setIfInBounds_toArray]
    have hlen : (cs.set (off + j0) u).length = cs.length := by simp
    rw [foldl_setCells v l off (j0 + 1) (cs.set (off + j0) u) (by rw [hlen]; simp at h; omega)]
    congr 1
    simp only [List.length_cons] at h ⊢
    have h1 : (cs.set (off + j0) u).take (off + (j0 + 1)) = cs.take (off + j0) ++ [u] := by
      rw [show off + (j0 + 1) = off + j0 + 1 by omega, List.take_succ_eq_append_getElem (by simp; omega)]
      rw [List.take_set_of_le (by omega)]
      simp
    have h2 : (cs.set (off + j0) u).drop (off + (j0 + 1) + l.length) = cs.drop (off + j0 + (l.length + 1)) := by
      rw [List.drop_set_of_lt (by omega)]
      congr 1
      omega
    rw [h1, h2]
    simp
theorem fill_seq (m : Nat) : ∀ (vs : List Value) (k : Nat) (cs : List Value), sizesOk m vs = true → cs.length = (k + vs.length) * m →
    Instr.fill (fun i => some (i * m, m)) cs.toArray (seqV k vs) = some (cs.take (k * m) ++ cellsOf vs).toArray
  | [], k, cs, _, hl => by
    simp only [seqV, Instr.fill, cellsOf, List.append_nil]
    rw [List.take_of_length_le (by simp at hl; omega)]
  | v :: vs, k, cs, hs, hl => by
    simp only [sizesOk, Bool.and_eq_true] at hs
    have hv := Nat.eq_of_beq_eq_true hs.1
    simp only [List.length_cons] at hl
    have hle : k * m + m ≤ cs.length := by
      rw [hl, Nat.add_mul, Nat.add_mul]; omega
    simp only [seqV, Instr.fill]
    have hn : ¬ (v.cells.size ≠ m ∨ cs.toArray.size < k * m + v.cells.size) := by simp [hv]; omega
    have hcond : (decide (v.cells.size ≠ m) || decide (k * m + v.cells.size > cs.toArray.size)) = false := by
      rw [Bool.eq_false_iff]; intro h; simp only [Bool.or_eq_true, decide_eq_true_eq] at h; exact hn h
    rw [if_neg (by rw [hcond]; exact Bool.false_ne_true)]
    have hz : v.cells.zipIdx = (v.cells.toList.zipIdx).toArray := by rw [← Array.toList_zipIdx, Array.toArray_toList]
    have hf := foldl_setCells v.cells v.cells.toList (k * m) 0 cs (by simp [hv]; omega)
    have e : (v.cells.zipIdx.foldl (fun cs (x : Value × Nat) => match x with | (c, j) => cs.setIfInBounds (k * m + j) c) cs.toArray) = (cs.take (k * m) ++ v.cells.toList ++ cs.drop (k * m + m)).toArray := by
      rw [hz, List.foldl_toArray]
      simpa [hv] using hf
    have hq0 : (k + (vs.length + 1)) * m = k * m + m + vs.length * m := by rw [Nat.add_mul, Nat.add_mul, Nat.one_mul]; omega
    have hq1 : (k + 1 + vs.length) * m = k * m + m + vs.length * m := by rw [Nat.add_mul, Nat.add_mul, Nat.one_mul]
    rw [e, fill_seq m vs (k + 1) _ hs.2 (by simp only [List.length_append, List.length_take, List.length_drop, Array.length_toList, hv]; omega)]
    congr 2
    simp only [cellsOf]
    have h3 : ((cs.take (k * m) ++ v.cells.toList ++ cs.drop (k * m + m)).take ((k + 1) * m)) = cs.take (k * m) ++ v.cells.toList := by
      have hq : (k + 1) * m = k * m + m := by rw [Nat.add_mul, Nat.one_mul]
      have hq2 : (cs.take (k * m) ++ v.cells.toList).length = k * m + m := by simp [hv]; omega
      rw [List.take_append_of_le_length (by omega), List.take_of_length_le (by omega)]
    rw [h3]
    simp
theorem ES_buildSlice [hs : SliceOf P t e m] [hz : ZeroOf P e u] {parts : List (Nat × Operand)} {vs : List Value} (hp : partsSeq E 0 parts = some vs) (hln : vs.length = len) (hsm : Nat.ble (len * m) 16777216 = true) (hlm : (Nat.beq (len * m) 0) = false) (hok : sizesOk m vs = true) (hd : Nat.ble (d + 1) C.n = true) : ES P C E S ⟨some d, .buildSlice t len parts.toArray, ty, ps, af, g0⟩ (fun E' S' => ∃ g, E' = (d, .slice (some ⟨g, 0, none⟩) len len) :: E ∧ S' = entBlk g e (cellsOf vs).toArray :: S) := by
  refine (ES_core (fun u S' => ∃ g, u = .slice (some ⟨g, 0, none⟩) len len ∧ S' = entBlk g e (cellsOf vs).toArray :: S) (fun a w ha hw => ?_) hd).weak (by rintro _ _ ⟨_, ⟨g, rfl, rfl⟩, rfl⟩; exact ⟨g, rfl, rfl⟩)
  refine ⟨_, _, _, ?_, hw.alloc (.cells (cellsOf vs).toArray e) (e := entBlk w.heap.size e (cellsOf vs).toArray) (fun _ h => h) (Blk.new _ _ _), _, rfl, rfl⟩
  have h1 := (partsSeq_eq ha hp).1
  have h2 : (parts.toArray.map fun (i, x) => (i, a.eval x)).toList = seqV 0 vs := by simpa using h1
  have n1 : ¬ 16777216 < len * m := by have := Nat.le_of_ble_eq_true hsm; omega
  have hlm' : ¬ len * m = 0 := fun e => by rw [e] at hlm; cases hlm
  have hf : Instr.fill (fun i => some (i * m, m)) ((Array.range (len * m)).map (u.cells[· % u.cells.size]!)) (seqV 0 vs) = some (cellsOf vs).toArray := by
    have := fill_seq m vs 0 ((Array.range (len * m)).map (u.cells[· % u.cells.size]!)).toList hok (by simp [hln])
    rw [Array.toArray_toList] at this
    simpa using this
  simp only [execOp, Instr.buildSlice, h2, run_underlying hs.und, hs.size w, Sem.run_bind, Result.andThen_ok, hz.run w]
  simp [n1, hlm', hz.run w, hf, newRow]

/-! Writing -/
theorem run_storeVar_one {w : World} [hs : OneCell P s] (hb : Blk w g t cs) (ho : o < cs.size) (h1 : v.oneCell' = true) : (storeVar s ⟨g, o, none⟩ v).run P w = .ok () (w.setCell ⟨g, o, none⟩ v) := by
  have hc : w.cell? ⟨g, o, none⟩ = some cs[o] := by rw [hb.cell]; simp [ho]
  have hf := hb.frozen o
  have hv : v.cells = #[v] := by cases v <;> first | rfl | (simp [Value.oneCell'] at h1)
  have hst := run_store P w ⟨g, o, none⟩ v .plain h1
  simp [storeVar, hv, hs.size w, storeCells, add_mk, hst, stored, hc, hf]
theorem Keeps.setCell (w : World) (g o : Nat) (v : Value) : Keeps [g] w (w.setCell ⟨g, o, none⟩ v) :=
  ⟨rfl, rfl, rfl, by simp, fun k _ hk => Below.heap_setCell w ⟨g, o, none⟩ v k (by simpa using hk)⟩
theorem ES_store [hs : OneCell P s] (hx : evo E x = some (.pointer (some ⟨g, o, none⟩))) (hy : evo E y = some v) (hu : Upd S (entBlk g t cs) (entBlk g t cs') S') (hcs : cs.setIfInBounds o v = cs') (ho : o < cs.size) (h1 : v.oneCell' = true) :
    ES P C E S ⟨none, .store s x y, ty, ps, af, g0⟩ (fun E' T => E' = E ∧ T = S') := by
  refine (ES_skip (fun T => T = S') (fun a w ha hw => ?_)).weak (by rintro _ _ ⟨rfl, rfl⟩; exact ⟨rfl, rfl⟩)
  have hb : Blk w g t cs := (hw.holds _ hu.mem).1
  refine ⟨w.setCell ⟨g, o, none⟩ v, S', by simp [execOp, ha.evo hx, ha.evo hy, Instr.storeAt, Instr.sureAddr, run_storeVar_one (P := P) (s := s) hb ho h1], ?_, rfl⟩
  subst hcs
  exact hw.upd hu (Keeps.setCell w g o v) (by simp [entBlk]) (fun k hk => ⟨by cases hk; simpa using hb.lt, .inl hk⟩) (hb.set_ o v)
theorem Keeps.setRow (w : World) (g : Nat) (cs : Array Value) : Keeps [g] w (w.setRow g cs) :=
  ⟨rfl, rfl, rfl, by simp, fun k _ hk => setRow_other w g k cs (by simpa using hk)⟩
theorem ES_storeWhole [hs : AggOf P s m] (hx : evo E x = some (.pointer (some ⟨g, 0, none⟩))) (hy : evo E y = some (.agg cs')) (hu : Upd S (entBlk g t cs) (entBlk g t cs') S') (hc : cs.size = m) (hc' : cs'.size = m) (h1 : cs'.toList.all (·.oneCell') = true) :
    ES P C E S ⟨none, .store s x y, ty, ps, af, g0⟩ (fun E' T => E' = E ∧ T = S') := by
  refine (ES_skip (fun T => T = S') (fun a w ha hw => ?_)).weak (by rintro _ _ ⟨rfl, rfl⟩; exact ⟨rfl, rfl⟩)
  have hb : Blk w g t cs := (hw.holds _ hu.mem).1
  have hst := run_storeCells_from (P := P) g t cs'.toList 0 cs w hb (by simp [hc, hc']) (fun v hv => List.all_eq_true.1 h1 v hv)
  refine ⟨w.setRow g cs', S', ?_, ?_, rfl⟩
  · simp [execOp, ha.evo hx, ha.evo hy, Instr.storeAt, Instr.sureAddr, storeVar, hs.size w, hc', Value.cells, hst]
  · exact hw.upd hu (Keeps.setRow w g cs') (by simp [entBlk]) (fun k hk => ⟨by cases hk; simpa using hb.lt, .inl hk⟩) (hb.row cs')
theorem ES_storeOwn [hs : OneCell P s] {xx x0 : α} (hx : evo E x = some (.pointer (some ⟨g, j * M + off, none⟩))) (hy : evo E y = some v)
    (hu : Upd S (entOwn enc M e (some ⟨g, 0, none⟩) c ls) (entOwn enc M e (some ⟨g, 0, none⟩) c (ls.set j xx)) S') (hM : ∀ x, (enc x).length = M) (hx0 : ls[j]? = some x0) (hoff : off < M) (he : enc xx = (enc x0).set off v) (h1 : v.oneCell' = true) :
    ES P C E S ⟨none, .store s x y, ty, ps, af, g0⟩ (fun E' T => E' = E ∧ T = S') := by
  refine (ES_skip (fun T => T = S') (fun a w ha hw => ?_)).weak (by rintro _ _ ⟨rfl, rfl⟩; exact ⟨rfl, rfl⟩)
  obtain ⟨hj, hjx⟩ := List.getElem?_eq_some_iff.1 hx0
  subst hjx
  have ho : Own enc M e w 0 (.slice (some ⟨g, 0, none⟩) ls.length c) ls := (hw.holds _ hu.mem).1
  obtain ⟨g', cap, cur, hv, hbb, hg, hnc, hcm, hcs, htake⟩ := ho.2.resolve_left (by simp)
  simp only [Value.slice.injEq, Option.some.injEq, Addr.mk.injEq, and_true, true_and] at hv
  obtain ⟨rfl, rfl⟩ := hv
  have hin : j * M + off < cur.size := by
    rw [hcs]
    have : j * M + M ≤ ls.length * M := by rw [← Nat.succ_mul]; exact Nat.mul_le_mul_right _ hj
    have : ls.length * M ≤ c * M := Nat.mul_le_mul_right _ hnc
    omega
  refine ⟨w.setCell ⟨g, j * M + off, none⟩ v, S', ?_, ?_, rfl⟩
  · have := run_storeVar_one (P := P) (s := s) (v := v) (show Blk w g e cur from hg) hin h1
    simp [execOp, ha.evo hx, ha.evo hy, Instr.storeAt, Instr.sureAddr, this]
  · refine hw.upd hu (Keeps.setCell w g _ v) (by simp [entOwn, Value.ownBlock]) (fun k hk => ?_) ?_
    · have hk' : some g = some k := hk
      cases hk'
      exact ⟨by simpa using (Array.getElem?_eq_some_iff.1 hg).1, .inl rfl⟩
    · have := ho.set_ hM j hj off hoff v xx he rfl
      simpa [entOwn] using this
theorem ES_storeOwn0 [hs : OneCell P s] {xx x0 : α} (hx : evo E x = some (.pointer (some ⟨g, j * M, none⟩))) (hy : evo E y = some v)
    (hu : Upd S (entOwn enc M e (some ⟨g, 0, none⟩) c ls) (entOwn enc M e (some ⟨g, 0, none⟩) c (ls.set j xx)) S') (hM : ∀ x, (enc x).length = M) (hx0 : ls[j]? = some x0) (hoff : 0 < M) (he : enc xx = (enc x0).set 0 v) (h1 : v.oneCell' = true) :
    ES P C E S ⟨none, .store s x y, ty, ps, af, g0⟩ (fun E' T => E' = E ∧ T = S') :=
  ES_storeOwn (off := 0) hx hy hu hM hx0 hoff he h1
theorem ES_storeOwn1 [hs : OneCell P s] {xx x0 : α} (hx : evo E x = some (.pointer (some ⟨g, j, none⟩))) (hy : evo E y = some v)
    (hu : Upd S (entOwn enc 1 e (some ⟨g, 0, none⟩) c ls) (entOwn enc 1 e (some ⟨g, 0, none⟩) c (ls.set j xx)) S') (hM : ∀ x, (enc x).length = 1) (hx0 : ls[j]? = some x0) (he : enc xx = (enc x0).set 0 v) (h1 : v.oneCell' = true) :
    ES P C E S ⟨none, .store s x y, ty, ps, af, g0⟩ (fun E' T => E' = E ∧ T = S') :=
  ES_storeOwn0 (M := 1) (by rw [hx]; simp) hy hu hM hx0 (by omega) he h1
end

/-! Calls -/
class IsFn (P : Program) (f : Nat) : Prop where
  run : ∀ args w, (callFunc f args).run P w = .ok (.enter f args) w
def evs (E : Slots) : List Operand → Option (List Value)
  | [] => some []
  | x :: r => match evo E x, evs E r with
    | some v, some vs => some (v :: vs)
    | _, _ => none
theorem evs_eq {a : Act} (ha : Env C.n a E) : ∀ {xs : List Operand} {vs}, evs E xs = some vs → xs.map a.eval = vs
  | [], vs, h => by cases h; rfl
  | x :: r, vs, h => by
    simp only [evs] at h
    split at h
    · rename_i v us hx hr
      cases h
      simp [ha.evo hx, evs_eq ha hr]
    · cases h
/-- a call of a known function, in any way -/
theorem ES_call [hf : IsFn P f] {xs : List Operand} {vs : List Value} {ats : Array TypeId} (Φ : Value → List Ent → Prop) (hx : evs E xs = some vs)
    (hc : ∀ w, Mem C w S → Calls P f vs.toArray w fun e w' => ∃ v S', e = .returned v ∧ Mem C w' S' ∧ Φ v S') (hd : Nat.ble (d + 1) C.n = true) :
    ES P C E S ⟨some d, .call ⟨.value (.func f), xs.toArray, ats⟩, ty, ps, af, g0⟩ (fun E' S' => ∃ v, Φ v S' ∧ E' = (d, v) :: E) :=
  ES_enter Φ (fun a w ha => by
    rw [execOp_call_go]
    have := evs_eq ha hx
    simp [hf.run, this]) hc hd
/-- a call whose value is known, and that makes memory at most -/
theorem ES_callV [hf : IsFn P f] {xs : List Operand} {vs : List Value} {ats : Array TypeId} (hx : evs E xs = some vs)
    (hc : ∀ w, Mem C w S → Calls P f vs.toArray w fun e w' => e = .returned v ∧ Below w.heap.size w w') (hd : Nat.ble (d + 1) C.n = true) :
    ES P C E S ⟨some d, .call ⟨.value (.func f), xs.toArray, ats⟩, ty, ps, af, g0⟩ (fun E' S' => E' = (d, v) :: E ∧ S' = S) :=
  (ES_call (fun u T => u = v ∧ T = S) hx (fun w hw => (hc w hw).mono fun e w' ⟨he, hb⟩ => ⟨v, S, he, hw.below hb, rfl, rfl⟩) hd).weak (by rintro _ _ ⟨_, ⟨rfl, rfl⟩, rfl⟩; exact ⟨rfl, rfl⟩)
/-- a call that hands back a list that it made -/
theorem ES_callOwn [hf : IsFn P f] {α : Type} {enc : α → List Value} {M et : Nat} {ls : List α} {xs : List Operand} {vs : List Value} {ats : Array TypeId} {r : Option Addr → Nat → Value} (hx : evs E xs = some vs)
    (hc : ∀ w, Mem C w S → Calls P f vs.toArray w fun e w' => ∃ A c, e = .returned (r A c) ∧ Own enc M et w' w.heap.size (.slice A ls.length c) ls ∧ Below w.heap.size w w') (hd : Nat.ble (d + 1) C.n = true) :
    ES P C E S ⟨some d, .call ⟨.value (.func f), xs.toArray, ats⟩, ty, ps, af, g0⟩ (fun E' S' => ∃ A c, E' = (d, r A c) :: E ∧ S' = entOwn enc M et A c ls :: S) :=
  (ES_call (fun u T => ∃ A c, u = r A c ∧ T = entOwn enc M et A c ls :: S) hx (fun w hw => (hc w hw).mono fun e w' ⟨A, c, he, ho, hb⟩ => ⟨_, _, he, hw.fresh (e := entOwn enc M et A c ls) hb (fun g hg => World.ownsRow.lt ho g hg) ho.base, A, c, rfl, rfl⟩) hd).weak
    (by rintro _ _ ⟨_, ⟨A, c, rfl, rfl⟩, rfl⟩; exact ⟨A, c, rfl, rfl⟩)
theorem Mem.nilOwn {α : Type} {w : World} (enc : α → List Value) (M et : Nat) (h : Mem C w S) : Mem C w (entOwn enc M et none 0 ([] : List α) :: S) :=
  h.fresh (e := entOwn enc M et none 0 ([] : List α)) (Below.refl _ _) (fun g hg => by simp [entOwn, Value.ownBlock] at hg) (Own.nil _ _)
theorem Mem.rd {α : Type} {enc : α → List Value} {M : Nat} {ls : List α} {A : Option Addr} {w : World} (hw : Mem C w S) (hF : C.F = []) (h : RdE enc M C.w0 A ls) : RdE enc M w A ls := by
  refine h.below ⟨hw.keeps.os, hw.keeps.tape, hw.keeps.output, hw.keeps.size, fun k hk => hw.keeps.block k hk (by simp [hF])⟩
theorem Mem.ownRd {α : Type} {enc : α → List Value} {M et : Nat} {ls : List α} {A : Option Addr} {w : World} (hw : Mem C w S) (hm : entOwn enc M et A c ls ∈ S) (hM : ∀ x, (enc x).length = M) : RdE enc M w A ls := by
  have ho : Own enc M et w 0 (.slice A ls.length c) ls := (hw.holds _ hm).1
  obtain ⟨A', c', hv, hr⟩ := Own.rd ho hM
  simp only [Value.slice.injEq] at hv
  rw [hv.1]; exact hr
/-- a list of the call's own, as the caller takes it -/
theorem Mem.ownOut {α : Type} {enc : α → List Value} {M et : Nat} {ls : List α} {A : Option Addr} {w : World} (hw : Mem C w S) (hF : C.F = []) (hm : entOwn enc M et A c ls ∈ S) : Own enc M et w C.w0.heap.size (.slice A ls.length c) ls := by
  obtain ⟨ho, hb⟩ := hw.holds _ hm
  have ho' : Own enc M et w 0 (.slice A ls.length c) ls := ho
  refine ⟨ho'.1, ?_⟩
  rcases ho'.2 with hn | ⟨g, cap, cur, hv, _, rest⟩
  · exact .inl hn
  · refine .inr ⟨g, cap, cur, hv, ?_, rest⟩
    have := (hb g (by show (Value.slice A ls.length c).ownBlock = some g; rw [hv]; rfl)).2
    rw [hF] at this
    simpa using this
/-- a block whole, as a list of the call's own -/
theorem Mem.blkOut {α : Type} {enc : α → List Value} {M et : Nat} {w : World} (ls : List α) (hw : Mem C w S) (hF : C.F = []) (hm : entBlk g et cs ∈ S) (hcs : cs.toList = ls.flatMap enc) (hM : ∀ x, (enc x).length = M) (hl : ls.length ≤ maxLen) :
    Own enc M et w C.w0.heap.size (.slice (some ⟨g, 0, none⟩) ls.length ls.length) ls := by
  obtain ⟨hb, hg⟩ := hw.holds _ hm
  have hb' : Blk w g et cs := hb
  refine ⟨flat_len hM ls, .inr ⟨g, ls.length, cs, rfl, ?_, hb', Nat.le_refl _, hl, ?_, ?_⟩⟩
  · have := (hg g rfl).2
    rw [hF] at this
    simpa using this
  · have := congrArg List.length hcs
    rw [flat_len hM] at this
    simpa using this
  · rw [hcs, List.take_of_length_le (by rw [flat_len hM]; exact Nat.le_refl _)]
theorem Mem.below0 {w : World} (hw : Mem C w S) (hF : C.F = []) : Below C.w0.heap.size C.w0 w := ⟨hw.keeps.os, hw.keeps.tape, hw.keeps.output, hw.keeps.size, fun k hk => hw.keeps.block k hk (by simp [hF])⟩

/-! The function's own frame -/
def resVals (E : Slots) : List ResultVar → Option (List Value)
  | [] => some []
  | .tmp t :: r => match look t E, resVals E r with
    | some v, some vs => some (v :: vs)
    | _, _ => none
  | .cell _ _ :: _ => none
def resVal : List Value → Value
  | [v] => v
  | vs => .tuple vs.toArray
def resG (tmps : Array Value) : ResultVar → Sem Value
  | .tmp t => pure (tmps.getD t undef)
  | .cell a t => do loadVar t (← asAddr (tmps.getD a undef))
theorem results_vals {fn : Func} {rs : List ResultVar} {vs : List Value} {a : Act} {w : World} (hfn : fn.results = rs.toArray) (ha : Env C.n a E) (h : resVals E rs = some vs) : (results fn a.tmps).run P w = .ok (resVal vs) w := by
  have key : ∀ (rs : List ResultVar) (vs : List Value), resVals E rs = some vs → (rs.mapM (resG a.tmps)).run P w = .ok vs w := by
    intro rs
    induction rs with
    | nil => intro vs h; cases h; simp
    | cons r rs ih =>
      intro vs h
      cases r with
      | cell ad t => cases h
      | tmp t =>
        simp only [resVals] at h
        split at h
        · rename_i v us hv hr
          cases h
          have := ha.2.2 t v hv
          simp [List.mapM_cons, ih us hr, resG, this]
        · cases h
  have hk := key rs vs h
  have e : results fn a.tmps = (do let vs ← fn.results.mapM (resG a.tmps); pure (if h : vs.size = 1 then vs[0] else .tuple vs)) := rfl
  rw [e, hfn]
  simp only [Array.mapM_eq_mapM_toList, Sem.run_bind, Sem.run_map, hk]
  match vs with
  | [] => simp [resVal]
  | [v] => simp [resVal]
  | u :: v :: vs => simp [resVal]
theorem At_ret {fn : Func} {R : Ending → World → Prop} {rs : List ResultVar} {vs : List Value} (hfn : fn.results = rs.toArray) (hr : resVals E rs = some vs) (h : ∀ w, Mem C w S → R (.returned (resVal vs)) w) : At C (bodyPost P fn R .ret) E S :=
  ⟨fun a w ha hw => ⟨ha.1, _, results_vals hfn ha hr, h w hw⟩⟩
theorem At_retN {fn : Func} {R : Ending → World → Prop} {rs : List ResultVar} {vs : List Value} (hfn : fn.results = rs.toArray) (hr : resVals E rs = some vs) (h : ∀ w, Mem C w S → R (.returned (resVal vs)) w) : At C (bodyPost P fn R .normal) E S :=
  ⟨fun a w ha hw => ⟨ha.1, _, results_vals hfn ha hr, h w hw⟩⟩
def slotsFrom : Nat → List Value → Slots
  | _, [] => []
  | k, v :: vs => (k, v) :: slotsFrom (k + 1) vs
theorem look_slotsFrom : ∀ (vs : List Value) (k t : Nat) (v : Value), look t (slotsFrom k vs) = some v → k ≤ t ∧ vs[t - k]? = some v
  | [], k, t, v, h => by cases h
  | u :: vs, k, t, v, h => by
    simp only [slotsFrom, look] at h
    split at h
    · rename_i hb
      have := Nat.eq_of_beq_eq_true hb
      subst this
      cases h
      simp
    · obtain ⟨h1, h2⟩ := look_slotsFrom vs (k + 1) t v h
      refine ⟨by omega, ?_⟩
      rw [show t - k = (t - (k + 1)) + 1 by omega]
      simpa using h2
theorem calls_T {f nt : Nat} {fn : Func} {body : Code} {vs : List Value} {w : World} {R : Ending → World → Prop} (F : List Nat) (hf : P.funcs[f]? = some fn) (hb : fn.body = some body) (hn : fn.ntmps = nt) (hle : vs.length ≤ nt)
    (hm : Mem ⟨nt, F, w⟩ w S) (h : T P ⟨nt, F, w⟩ body (bodyPost P fn R) (slotsFrom 0 vs) S) : Calls P f vs.toArray w R := by
  refine calls_of_wp hf hb (h.run _ w ⟨rfl, ?_, fun t v hv => ?_⟩ hm)
  · simp [hn]; omega
  · obtain ⟨_, h2⟩ := look_slotsFrom vs 0 t v hv
    have := (List.getElem?_eq_some_iff.1 h2).1
    simp only [Nat.sub_zero] at h2 this
    rw [Array.getElem?_append_left (by simpa using this)]
    simpa using h2
theorem fieldAt_of {s f : Nat} {fs : Array Field} (off t : Nat) {n : Nat} (hu : P.underlying s = some (.struct fs)) (hf : (fs[f]?).map (fun d => (d.offset, d.type)) = some (off, t)) (hs : ∀ w, (sizeOf t).run P w = .ok n w) (hn : n ≠ 0) : FieldAt P s f off := by
  cases hfd : fs[f]? with
  | none => rw [hfd] at hf; cases hf
  | some fd =>
    rw [hfd] at hf
    simp only [Option.map_some, Option.some.injEq, Prod.mk.injEq] at hf
    obtain ⟨rfl, rfl⟩ := hf
    exact ⟨fun g o w => by simp [Instr.fieldAt, run_underlying hu, hfd, Instr.sureAddr, fieldPlace, hs w, hn, add_mk]⟩
end
end Go.Proofs.Ytppicbdaijiifaa
