/- More rules. No condition. -/
import Derived.Test.YtppicbdaijiifaaT6
import Derived.Test.YtppicbdaijiifaaEqual
import Derived.WalkSpells
set_option linter.unusedSimpArgs false
set_option linter.unusedVariables false
set_option linter.unusedSectionVars false
set_option linter.unnecessarySimpa false
namespace Go.Proofs.Ytppicbdaijiifaa
open Go.RowKit

def natEnc (k : Nat) : List Value := [.int .i64 k]
/-- numbers, as they stand in an int -/
def wrEnc (k : Nat) : List Value := [.int .i64 (IntKind.i64.wrap k)]
def boolEnc (b : Bool) : List Value := [.bool b]
section
variable {P : Program} {C : Ctx} {Q : Exit → Act → World → Prop} {E : Slots} {S S' : List Ent} {l rest : List Oper}
variable {d ty ty2 ty3 : Nat} {ps : String} {af : Array Edge} {g0 : Option (Nat × Bool)} {x y : Operand} {v u z : Value} {s t e m M bytes g c n : Nat} {A : Option Addr} {cs : Array Value}
/-- a block whole, as a list -/
theorem Mem.asOwn {α : Type} {enc : α → List Value} {w : World} (ls : List α) (hu : Upd S (entBlk g e cs) (entOwn enc M e (some ⟨g, 0, Option.none⟩) ls.length ls) S') (hcs : cs.toList = ls.flatMap enc) (hM : ∀ x, (enc x).length = M) (hl : ls.length ≤ maxLen) (hw : Mem C w S) : Mem C w S' := by
  have hb : Blk w g e cs := (hw.holds _ hu.mem).1
  refine hw.upd hu (Keeps.refl [] w) (by simp) (fun k hk => ?_) ?_
  · have : some g = some k := hk
    cases this
    exact ⟨hb.lt, .inl rfl⟩
  · show Own enc M e w 0 (.slice (some ⟨g, 0, Option.none⟩) ls.length ls.length) ls
    refine ⟨flat_len hM ls, .inr ⟨g, ls.length, cs, rfl, Nat.zero_le _, hb, Nat.le_refl _, hl, ?_, ?_⟩⟩
    · have := congrArg List.length hcs
      rw [flat_len hM] at this
      simpa using this
    · rw [hcs, List.take_of_length_le (by rw [flat_len hM]; exact Nat.le_refl _)]
theorem Mem.ownLe {α : Type} {enc : α → List Value} {ls : List α} {w : World} (hw : Mem C w S) (hm : entOwn enc M e A c ls ∈ S) : ls.length ≤ c := by
  have ho : Own enc M e w 0 (.slice A ls.length c) ls := (hw.holds _ hm).1
  rcases ho.2 with ⟨hv, _⟩ | ⟨g, cap, cur, hv, _, _, hnc, _⟩
  · simp only [Value.slice.injEq] at hv; omega
  · simp only [Value.slice.injEq] at hv; omega
theorem T_ownLe {α : Type} {enc : α → List Value} {ls : List α} {code : Code} (hm : entOwn enc M e A c ls ∈ S) (h : ls.length ≤ c → T P C code Q E S) : T P C code Q E S :=
  ⟨fun a w ha hw => (h (hw.ownLe hm)).run a w ha hw⟩
theorem TL_ownLe {α : Type} {enc : α → List Value} {ls : List α} (hm : entOwn enc M e A c ls ∈ S) (h : ls.length ≤ c → TL P C l Q rest E S) : TL P C l Q rest E S :=
  ⟨fun a w ha hw => (h (hw.ownLe hm)).run a w ha hw⟩
theorem TL_own {α : Type} {enc : α → List Value} {ls : List α} (hm : entOwn enc M e A c ls ∈ S) (hl : 0 < ls.length) (h : ∀ g, A = some ⟨g, 0, none⟩ → TL P C l Q rest E S) : TL P C l Q rest E S :=
  ⟨fun a w ha hw => by
    have ho : Own enc M e w 0 (.slice A ls.length c) ls := (hw.holds _ hm).1
    rcases ho.2 with ⟨hn, h0⟩ | ⟨g, cap, cur, hv, _⟩
    · omega
    · simp only [Value.slice.injEq] at hv
      exact (h g hv.1).run a w ha hw⟩
theorem TL_mem (hS : ∀ w, Mem C w S → Mem C w S') (h : TL P C l Q rest E S') : TL P C l Q rest E S := ⟨fun a w ha hw => h.run a w ha (hS w hw)⟩
/-- one item appended, out of a literal -/
theorem ES_append1 {α : Type} {enc : α → List Value} {gy cy ty' : Nat} {xx : α} {ls : List α} [hs : SliceOf P t e M] [hi : InfoOf P e z M bytes] {S' : Option Addr → Nat → List Ent} (hx : evo E x = some (.slice A ls.length c)) (hy : evo E y = some (.slice (some ⟨gy, 0, none⟩) 1 cy))
    (hm : entBlk gy ty' cs ∈ S) (hcs : cs.toList = enc xx) (hM : ∀ x, (enc x).length = M) (h1 : ∀ x, (enc x).all (·.oneCell') = true)
    (hu : ∀ A' c', Upd S (entOwn enc M e A c ls) (entOwn enc M e A' c' (ls ++ [xx])) (S' A' c')) (hb : (ls.length + 1) * bytes ≤ 140737488355328) (hb0 : 0 < bytes) (hd : Nat.ble (d + 1) C.n = true) :
    ES P C E S ⟨some d, .call ⟨.builtin .append, #[x, y], #[t, t]⟩, ty, ps, af, g0⟩ (fun E' T => ∃ A' c', E' = (d, .slice A' (ls ++ [xx]).length c') :: E ∧ T = S' A' c') :=
  ES_append (xs := [xx]) hx hy (by have := Lies.blk (C := C) (n := 1) (c := cy) hm; rw [hcs] at this; simpa using this) hM h1 hu hb hb0 hd
/-! numbers that wrap -/
section
variable {k : IntKind} {a b : Int} (hx : evo E x = some (.int k a)) (hy : evo E y = some (.int k b))
include hx hy
theorem QS_addW : QS P C E S (.binOp .add ty2 x y ty3) ty (.int k (k.wrap (a + b))) := QS.of (fun _ w ha _ => binInt ha hx hy _ (by simp [binOp, Op.intArith]))
theorem QS_subW : QS P C E S (.binOp .sub ty2 x y ty3) ty (.int k (k.wrap (a - b))) := QS.of (fun _ w ha _ => binInt ha hx hy _ (by simp [binOp, Op.intArith]))
theorem QS_mulW : QS P C E S (.binOp .mul ty2 x y ty3) ty (.int k (k.wrap (a * b))) := QS.of (fun _ w ha _ => binInt ha hx hy _ (by simp [binOp, Op.intArith]))
end
theorem i64_wrap_add (m n : Int) : IntKind.i64.wrap (IntKind.i64.wrap m + IntKind.i64.wrap n) = IntKind.i64.wrap (m + n) := by
  simp only [IntKind.wrap_i64]
  omega
theorem QS_addWW {a b : Int} (hx : evo E x = some (.int .i64 (IntKind.i64.wrap a))) (hy : evo E y = some (.int .i64 (IntKind.i64.wrap b))) : QS P C E S (.binOp .add ty2 x y ty3) ty (.int .i64 (IntKind.i64.wrap (a + b))) :=
  QS.of (fun _ w ha _ => binInt ha hx hy _ (by simp [binOp, Op.intArith, i64_wrap_add]))
/-! a slice, asked whether it is nil -/
section
variable [hs : SliceOf P t e m] (hx : evo E x = some (.slice A n c)) (hy : evo E y = some (.slice none 0 0))
include hs hx hy
theorem QS_eqlNil : QS P C E S (.binOp .eql t x y ty3) ty (.bool A.isNone) :=
  QS.of (fun a w ha _ => by
    have h2 := Lib.run_eql_slice_nil (P := P) w t e A n c 0 0 hs.und
    have hg : (eqGuard .eql t x y (.slice A n c) (.slice none 0 0)).run P w = .ok () w := by
      unfold eqGuard
      simp [run_underlying hs.und]
    simp only [execOp, ha.evo hx, ha.evo hy, Sem.run_bind, hg, Result.andThen_ok, h2]; rfl)
theorem QS_neqNil : QS P C E S (.binOp .neq t x y ty3) ty (.bool (!A.isNone)) :=
  QS.of (fun a w ha _ => by
    have h2 := run_neq_slice_nil_any (P := P) w t e A n c 0 0 hs.und
    have hg : (eqGuard .neq t x y (.slice A n c) (.slice none 0 0)).run P w = .ok () w := by
      unfold eqGuard
      simp [run_underlying hs.und]
    simp only [execOp, ha.evo hx, ha.evo hy, Sem.run_bind, hg, Result.andThen_ok, h2]; rfl)
end
/-- an empty literal -/
theorem ES_buildSlice0 {α : Type} (enc : α → List Value) [hs : SliceOf P t e m] (hd : Nat.ble (d + 1) C.n = true) : ES P C E S ⟨some d, .buildSlice t 0 #[], ty, ps, af, g0⟩ (fun E' S' => ∃ g, E' = (d, .slice (some ⟨g, 0, none⟩) 0 0) :: E ∧ S' = entOwn enc m e (some ⟨g, 0, none⟩) 0 [] :: S) := by
  refine (ES_core (fun u S' => ∃ g, u = .slice (some ⟨g, 0, none⟩) 0 0 ∧ S' = entOwn enc m e (some ⟨g, 0, none⟩) 0 [] :: S) (fun a w ha hw => ?_) hd).weak (by rintro _ _ ⟨_, ⟨g, rfl, rfl⟩, rfl⟩; exact ⟨g, rfl, rfl⟩)
  refine ⟨_, _, _, ?_, hw.alloc (.cells #[] e) (e := entOwn enc m e (some ⟨w.heap.size, 0, none⟩) 0 []) (fun _ h => h) ?_, _, rfl, rfl⟩
  · have e0 : (Array.range 0).map (fun _ => (default : Value)) = #[] := by simp [Array.range]
    simp [execOp, Instr.buildSlice, run_underlying hs.und, hs.size w, Instr.fill, newRow, e0]
  · show Own enc m e _ 0 (.slice (some ⟨w.heap.size, 0, none⟩) ([] : List α).length 0) []
    exact ⟨by simp, .inr ⟨w.heap.size, 0, #[], rfl, Nat.zero_le _, Blk.new _ _ _, Nat.le_refl _, by simp [maxLen], by simp, by simp⟩⟩
end

/-! results that lie in memory -/
section
variable {P : Program} {C : Ctx} {E : Slots} {S : List Ent}
inductive ResIs (P : Program) (C : Ctx) (E : Slots) (S : List Ent) : List ResultVar → List Value → Prop
  | nil : ResIs P C E S [] []
  | tmp {t : Nat} {v : Value} {r : List ResultVar} {vs : List Value} (hv : look t E = some v) (h : ResIs P C E S r vs) : ResIs P C E S (.tmp t :: r) (v :: vs)
  | cell {a t : Nat} {ad : Addr} {v : Value} {r : List ResultVar} {vs : List Value} (ha : look a E = some (.pointer (some ad))) (hl : Lds P C S t ad v) (h : ResIs P C E S r vs) : ResIs P C E S (.cell a t :: r) (v :: vs)
theorem results_is {fn : Func} {rs : List ResultVar} {vs : List Value} {a : Act} {w : World} (hfn : fn.results = rs.toArray) (ha : Env C.n a E) (hw : Mem C w S) (h : ResIs P C E S rs vs) : (results fn a.tmps).run P w = .ok (resVal vs) w := by
  have key : (rs.mapM (resG a.tmps)).run P w = .ok vs w := by
    induction h generalizing fn with
    | nil => simp
    | @tmp t v r vs hv _ ih =>
      have := ha.2.2 t v hv
      simp [List.mapM_cons, ih (fn := { fn with results := r.toArray }) rfl, resG, this]
    | @cell a' t ad v r vs hv hl _ ih =>
      have := ha.2.2 a' _ hv
      have h1 : (asAddr (Value.pointer (some ad))).run P w = .ok ad w := rfl
      simp [List.mapM_cons, ih (fn := { fn with results := r.toArray }) rfl, resG, this, h1, hl w hw]
  have e : results fn a.tmps = (do let vs ← fn.results.mapM (resG a.tmps); pure (if h : vs.size = 1 then vs[0] else .tuple vs)) := rfl
  rw [e, hfn]
  simp only [Array.mapM_eq_mapM_toList, Sem.run_bind, Sem.run_map, key]
  match vs with
  | [] => simp [resVal]
  | [v] => simp [resVal]
  | u :: v :: vs => simp [resVal]
theorem At_retM {fn : Func} {R : Ending → World → Prop} {rs : List ResultVar} {vs : List Value} (hfn : fn.results = rs.toArray) (hr : ResIs P C E S rs vs) (h : ∀ w, Mem C w S → R (.returned (resVal vs)) w) : At C (bodyPost P fn R .ret) E S :=
  ⟨fun a w ha hw => ⟨ha.1, _, results_is hfn ha hw hr, h w hw⟩⟩
end

end Go.Proofs.Ytppicbdaijiifaa
