/- Lemmas for the walks (VdP, VdQ, Vd0, VdE, Vd1, VdW, VdB, Vd2, VdN). No condition. -/
import Derived.Test.YtjdckepbihcgfaaGreatDoorG23
import Derived.Test.YtjdckepbihcgfaaGreatDoorG22
import Derived.Test.YtjdckepbihcgfaaGreatDoorG07
import Derived.Test.YtjdckepbihcgfaaGreatDoorG06
import Derived.Test.YtjdckepbihcgfaaGreatDoorG08
import Derived.Test.YtjdckepbihcgfaaGreatDoorG14
import Derived.Test.YtjdckepbihcgfaaGreatDoorG15
import Derived.Test.YtjdckepbihcgfaaGreatDoorG05
import Derived.Test.YtjdckepbihcgfaaGreatDoorG04
import Derived.Shelf.SlSortCmp.NoneTotal
import Derived.Test.YtjdckepbihcgfaaGreatDoorG01
import Derived.Test.YtjdckepbihcgfaaGreatDoorG09
import Derived.Laws.Pointers
import Derived.Test.YtjdckepbihcgfaaGreatDoorG16
import Derived.Shelf.SlIterI.Nil
import Derived.Shelf.SortM.Plain
import Derived.Shelf.SortM.SortNone
set_option linter.unusedSimpArgs false
set_option linter.unusedVariables false
set_option linter.unusedSectionVars false
set_option linter.unnecessarySimpa false
namespace Go.Proofs.YtjdckepbihcgfaaGreatDoor
open Go.RowKit Go.Lib
set_option linter.unusedSectionVars false

instance vdBldIn : BldIn 63 := ⟨by kernel_rfl, by decide⟩
instance vdPlainS : PlainT Tryz.prog 9 := ⟨fun v w => by simp [Instr.makeInterface, run_underlying Tryz.underlying9]⟩
instance vdPlainI : PlainT Tryz.prog 3 := ⟨fun v w => by simp [Instr.makeInterface, run_underlying Tryz.underlying3]⟩
instance vdPlainE : PlainT Tryz.prog 27 := ⟨fun v w => by simp [Instr.makeInterface, run_underlying Tryz.underlying27]⟩
/-- a line of words -/
def lnB (ws : List Bs) : Bs := joinL 32 ws ++ [10]
/-- a part of a line -/
inductive Pt where
  | str (s : Bs)
  | int (n : Int)
  | err (n : Int)
def Pt.ty : Pt → Nat
  | .str _ => 9
  | .int _ => 3
  | .err _ => 27
def Pt.raw : Pt → Value
  | .str s => bsv s
  | .int n => .int .i64 n
  | .err n => .int .i64 n
def Pt.enc (p : Pt) : List Value := [.iface p.ty p.raw]
def Pt.word : Pt → Bs
  | .str s => s
  | .int n => itoa n
  | .err n => itoa n
def Pt.ok : Pt → Prop
  | .str s => s.length ≤ 100
  | .int n => -1000000 ≤ n ∧ n ≤ 1000000
  | .err n => -1000000 ≤ n ∧ n ≤ 1000000
theorem Pt.word_len {p : Pt} (h : p.ok) : p.word.length ≤ 100 := by
  cases p with
  | str s => exact h
  | int n => have := itoa_len8 h; show (itoa n).length ≤ 100; omega
  | err n => have := itoa_len8 h; show (itoa n).length ≤ 100; omega
section
variable {C : Ctx} {E : Slots} {S : List Ent} {ty s u : Nat} {x : Operand} {v : Value}
theorem QS_assertS (hx : evo E x = some (.iface 9 v)) : QS Tryz.prog C E S (.typeAssert x s 9 true) ty (.tuple #[v, .bool true]) :=
  QS.of (fun a w ha _ => by simp [execOp, ha.evo hx, Instr.typeAssert, run_underlying Tryz.underlying9])
theorem QS_assertSN (hx : evo E x = some (.iface u v)) (hu : u ≠ 9) : QS Tryz.prog C E S (.typeAssert x s 9 true) ty (.tuple #[bsv [], .bool false]) :=
  QS.of (fun a w ha _ => by simp [execOp, ha.evo hx, Instr.typeAssert, run_underlying Tryz.underlying9, hu, Tryz.zeroValue9]; rfl)
theorem QS_assertI (hx : evo E x = some (.iface 3 v)) : QS Tryz.prog C E S (.typeAssert x s 3 true) ty (.tuple #[v, .bool true]) :=
  QS.of (fun a w ha _ => by simp [execOp, ha.evo hx, Instr.typeAssert, run_underlying Tryz.underlying3])
theorem QS_assertIN (hx : evo E x = some (.iface u v)) (hu : u ≠ 3) : QS Tryz.prog C E S (.typeAssert x s 3 true) ty (.tuple #[.int .i64 0, .bool false]) :=
  QS.of (fun a w ha _ => by simp [execOp, ha.evo hx, Instr.typeAssert, run_underlying Tryz.underlying3, hu, Tryz.zeroValue3])
theorem QS_assertE (hx : evo E x = some (.iface 27 v)) : QS Tryz.prog C E S (.typeAssert x s 27 true) ty (.tuple #[v, .bool true]) :=
  QS.of (fun a w ha _ => by simp [execOp, ha.evo hx, Instr.typeAssert, run_underlying Tryz.underlying27])
end
/-- blocks that are not those of the library's variables that are read -/
def GlobOff (F : List Nat) : Prop := 1 ∉ F ∧ 3 ∉ F ∧ 6 ∉ F ∧ 7 ∉ F
theorem cell_keeps {F : List Nat} {w w' : World} {g k : Nat} {v : Value} (hk : Keeps F w w') (hg : g ∉ F) (h : w.cell? ⟨g, k, none⟩ = some v) : w'.cell? ⟨g, k, none⟩ = some v := by
  have hl := cell_lt h
  unfold World.cell? at h ⊢
  dsimp only at h ⊢
  rw [hk.block g hl hg]; exact h
theorem pow_at : Program.globalNamed Tryz.prog "internal/strconv.uint64pow10" = some 3 := by kernel_rfl
theorem pow_lt {w : World} (h : TxW w) : 3 < w.heap.size := by
  have h := h.pow
  unfold TabIs World.var? at h
  rw [pow_at, Option.bind_some] at h
  rcases Nat.lt_or_ge 3 w.heap.size with h1 | h1
  · exact h1
  · rw [Array.getElem?_eq_none h1] at h; cases h
theorem TxW.keeps {F : List Nat} {w w' : World} (h : TxW w) (hk : Keeps F w w') (hF : GlobOff F) : TxW w' := by
  have hpl := pow_lt h
  obtain ⟨⟨m, h1⟩, h2, ⟨e1, h4, h5⟩, ⟨e2, h6, h7⟩⟩ := h
  refine ⟨⟨m, cell_keeps hk hF.1 h1⟩, ?_, ⟨e1, cell_keeps hk hF.2.2.1 h4, h5⟩, ⟨e2, cell_keeps hk hF.2.2.2 h6, h7⟩⟩
  unfold TabIs World.var? at h2 ⊢
  rw [pow_at, Option.bind_some] at h2 ⊢
  rw [hk.block _ hpl hF.2.1]; exact h2
theorem globOff_of {C : Ctx} {w : World} {S R : List Ent} (hT : TxW C.w0) (hF : GlobOff C.F) (hw : Mem C w (S ++ R)) : GlobOff (blks S) := by
  have hpl := pow_lt hT
  obtain ⟨⟨m, h1⟩, h2, ⟨e1, h4, h5⟩, ⟨e2, h6, h7⟩⟩ := hT
  have key : ∀ g, g < C.w0.heap.size → g ∉ C.F → g ∉ blks S := fun g hg hgF hm => by
    obtain ⟨e, he, hg2⟩ := mem_blks.1 hm
    rcases ((hw.holds e (List.mem_append_left _ he)).2 g hg2).2 with h | h
    · exact hgF h
    · omega
  exact ⟨key _ (cell_lt h1) hF.1, key _ hpl hF.2.1, key _ (cell_lt h4) hF.2.2.1, key _ (cell_lt h6) hF.2.2.2⟩
theorem globOff_nil : GlobOff [] := ⟨by simp, by simp, by simp, by simp⟩
/-- the words of the first k parts -/
def wordsTo (ps : List Pt) (k : Nat) : Bs := joinL 32 ((ps.take k).map Pt.word)
theorem joinL_snoc (c : UInt8) : ∀ (ws : List Bs) (w : Bs), joinL c (ws ++ [w]) = if ws = [] then w else joinL c ws ++ [c] ++ w
  | [], w => rfl
  | [x], w => by simp [joinL]
  | x :: y :: r, w => by
    rw [if_neg (by simp), List.cons_append, List.cons_append, joinL, joinL, ← List.cons_append, joinL_snoc c (y :: r) w, if_neg (by simp)]
    simp
theorem wordsTo_succ {ps : List Pt} {k : Nat} (hk : k < ps.length) : wordsTo ps (k + 1) = if k = 0 then ps[k].word else wordsTo ps k ++ [32] ++ ps[k].word := by
  unfold wordsTo
  rw [List.take_succ_eq_append_getElem hk, List.map_append, List.map_cons, List.map_nil, joinL_snoc]
  by_cases e : k = 0
  · subst e; rfl
  · rw [if_neg e, if_neg]
    intro h
    have := congrArg List.length h
    rw [List.length_map, List.length_take, List.length_nil] at this
    omega
theorem wordsTo_len {ps : List Pt} (hok : ∀ p ∈ ps, p.ok) : ∀ k, k ≤ ps.length → (wordsTo ps k).length ≤ k * 101
  | 0, _ => by simp [wordsTo, joinL]
  | k + 1, hk => by
    have ih := wordsTo_len hok k (by omega)
    have := Pt.word_len (hok ps[k] (List.getElem_mem _))
    rw [wordsTo_succ (show k < ps.length by omega)]
    split
    · omega
    · simp only [List.length_append, List.length_cons, List.length_nil]; omega
section
variable (b cx : Nat) (Ax : Option Addr) (l : Bs) (A : Option Addr) (c : Nat) (ps : List Pt) (W : World) (hT : TxW W) (hoff : GlobOff (blks [entBldr 63 5 b Ax cx l])) (hl : l.length ≤ 200000) (hn : ps.length ≤ 1100) (hok : ∀ p ∈ ps, p.ok) (hA : RdE Pt.enc 1 W A ps) (haw : ∀ b' o, A = some ⟨b', o, none⟩ → b' ∉ blks [entBldr 63 5 b Ax cx l]) (n0 : Nat) (hm : Mem ⟨n0, blks [entBldr 63 5 b Ax cx l], W⟩ W [entBldr 63 5 b Ax cx l])
include hT hoff hl hn hok hA haw hm
set_option maxRecDepth 100000 in
set_option maxHeartbeats 4000000 in
theorem line_mem : Calls Tryz.prog 24 #[.pointer (some ⟨b, 0, none⟩), .slice A ps.length c] W fun e w' => ∃ x : Option Addr × Nat, e = .returned (.tuple #[]) ∧ Mem ⟨0, blks [entBldr 63 5 b Ax cx l], W⟩ w' [entBldr 63 5 b x.1 x.2 (l ++ lnB (ps.map Pt.word))] := by
  obtain ⟨F, hF⟩ : ∃ F, F = blks [entBldr 63 5 b Ax cx l] := ⟨_, rfl⟩
  rw [← hF] at hoff haw hm ⊢
  clear hF
  refine calls_T (S := [entBldr 63 5 b Ax cx l]) F Tryz.func24 rfl Tryz.ntmps24 (by simp) (hm.anyN _) ?_
  repeat' (first | ((first | with_reducible (first | apply TL_q | apply TD_q0 | apply TD_q1 | apply TD_q2 | apply TD_q3) | ((with_reducible (first | apply TD_q0y | apply TD_q1y)); exact rfl; exact rfl; (with_reducible exact rfl))); (first | ((with_reducible apply QS_load); exact rfl; exact Lds.rd1 (enc := Pt.enc) hA hbF hkl (by rw [← hp]; rfl)) | ((with_reducible apply QS_assertS); exact rfl) | ((with_reducible apply QS_assertSN); exact rfl; (simp only [Pt.ty]; decide)) | ((with_reducible apply QS_assertI); exact rfl) | ((with_reducible apply QS_assertIN); exact rfl; (simp only [Pt.ty]; decide)) | ((with_reducible apply QS_assertE); exact rfl) | exact QS.auto); exact rfl) | refine GG ?_ | (refine GE ?_; (first | rintro _ _ ⟨rfl, rfl⟩ | rintro _ _ ⟨g, rfl, rfl⟩ | rintro _ _ ⟨A', c', rfl, rfl⟩); (try refine ⟨SUB, ?_⟩)) | (refine GO2 ?_ ?_ <;> (refine Zs ?_; intro h; try exact Zx)) | refine GOF ?_ ?_ | fail)
  refine T_loop (X := Nat × Option Addr × Nat) (fun x => [(11, .int .i64 (x.1 : Nat)), (10, .int .i64 ps.length), (9, .slice A ps.length c), (0, .pointer (some ⟨b, 0, none⟩))]) (fun x => [entBldr 63 5 b x.2.1 x.2.2 (l ++ wordsTo ps x.1)])
    (fun x => x.1 ≤ ps.length) (fun x => ps.length - x.1) (0, Ax, cx) (by (try dsimp only); omega) (by (try dsimp only); exact Ze) (fun w' hw => by (try dsimp only); rw [show wordsTo ps 0 = [] from rfl, List.append_nil]; exact hw.sel Zl) ?_
  clear hm
  rintro ⟨k, Aq, cq⟩ hk
  dsimp only at hk ⊢
  have hwl := wordsTo_len hok k hk
  have hwl2 : k * 101 ≤ 1100 * 101 := Nat.mul_le_mul_right _ (by omega)
  by_cases hkl : k < ps.length
  · have hws := wordsTo_succ hkl
    have hpo := hok ps[k] (List.getElem_mem _)
    have hpl := Pt.word_len hpo
    obtain ⟨ba, o, rfl, _⟩ := RdE.open hA (by omega)
    have hbF : ba ∉ F := haw ba o rfl
    obtain ⟨p, hp⟩ : ∃ p, p = ps[k] := ⟨_, rfl⟩
    rw [← hp] at hws hpo hpl
    have hL0 : k = 0 → wordsTo ps k = [] := by rintro rfl; rfl
    generalize wordsTo ps k = L at *
    cases p with
    | str s =>
      have hpl : s.length ≤ 100 := hpl
      replace hws : wordsTo ps (k + 1) = if k = 0 then s else L ++ [32] ++ s := hws
      repeat' (first | ((first | with_reducible (first | apply TL_q | apply TD_q0 | apply TD_q1 | apply TD_q2 | apply TD_q3) | ((with_reducible (first | apply TD_q0y | apply TD_q1y)); exact rfl; exact rfl; (with_reducible exact rfl))); (first | ((with_reducible apply QS_load); exact rfl; exact Lds.rd1 (enc := Pt.enc) hA hbF hkl (by rw [← hp]; rfl)) | ((with_reducible apply QS_assertS); exact rfl) | ((with_reducible apply QS_assertSN); exact rfl; (simp only [Pt.ty]; decide)) | ((with_reducible apply QS_assertI); exact rfl) | ((with_reducible apply QS_assertIN); exact rfl; (simp only [Pt.ty]; decide)) | ((with_reducible apply QS_assertE); exact rfl) | exact QS.auto); exact rfl) | refine GG ?_ | (refine GE ?_; (first | rintro _ _ ⟨rfl, rfl⟩ | rintro _ _ ⟨g, rfl, rfl⟩ | rintro _ _ ⟨A', c', rfl, rfl⟩); (try refine ⟨SUB, ?_⟩)) | (refine GO2 ?_ ?_ <;> (refine Zs ?_; intro h; try exact Zx)) | refine GOF ?_ ?_ | ((with_reducible (first | apply TD_e2z | apply TD_e3z | apply TL_e | apply TD_e2 | apply TD_e3)); ((with_reducible apply ES_callX (f := 57) (X := Option Addr × Nat) (S1 := [entBldr 63 5 b _ _ _]) (fun _ => .tuple #[.int .i64 (List.length _), .nilIface]) (fun x => [entBldr 63 5 b x.1 x.2 (_ ++ _)])); exact rfl; exact Zp; (intro x; (try dsimp only); exact Za); (intro w hw; exact bwrite_mem _ _ (by (try simp only [List.length_append, List.length_cons, List.length_nil]); omega) b _ _ w (hw.holds _ List.mem_cons_self).1); exact rfl); (first | exact rfl | exact ⟨rfl, rfl, rfl⟩); (rintro _ _ ⟨⟨Ax, cx⟩, rfl, rfl⟩); (try refine ⟨SUB, ?_⟩)) | ((with_reducible apply T_draw (id := 11) 5 (OT.seq [(0, 0), (0, 1), (0, 2), (0, 3), (2, 4), (3, 5)] .nil)); kernel_rfl; exact rfl; kernel_rfl; (repeat (first | with_reducible exact Blind.body | with_reducible apply Blind.seq | with_reducible apply Blind.block))) | ((with_reducible apply T_draw (id := 14) 5 (OT.seq [(0, 0), (0, 1), (0, 2), (0, 3), (2, 4), (3, 5)] .nil)); kernel_rfl; exact rfl; kernel_rfl; (repeat (first | with_reducible exact Blind.body | with_reducible apply Blind.seq | with_reducible apply Blind.block))) | fail)
      all_goals first | (exfalso; contradiction) | skip
      all_goals
        apply At_rounds (k + 1, Ax, cx)
        (case hE => (try dsimp only); exact Ze)
        (case hS => (try dsimp only); rw [hws]; first | (rw [if_neg (by omega)]; simp only [List.append_assoc]; exact fun w' hw => hw.sel Zl) | (rw [if_pos (by omega), hL0 (by omega)]; simp only [List.append_assoc, List.nil_append]; exact fun w' hw => hw.sel Zl))
        (case hμ => (try dsimp only); omega)
        (case hp => (try dsimp only); omega)
    | int n =>
      have hpl : (itoa n).length ≤ 100 := hpl
      obtain ⟨hn0, hn1⟩ := hpo
      replace hws : wordsTo ps (k + 1) = if k = 0 then itoa n else L ++ [32] ++ itoa n := hws
      repeat' (first | ((first | with_reducible (first | apply TL_q | apply TD_q0 | apply TD_q1 | apply TD_q2 | apply TD_q3) | ((with_reducible (first | apply TD_q0y | apply TD_q1y)); exact rfl; exact rfl; (with_reducible exact rfl))); (first | ((with_reducible apply QS_load); exact rfl; exact Lds.rd1 (enc := Pt.enc) hA hbF hkl (by rw [← hp]; rfl)) | ((with_reducible apply QS_assertS); exact rfl) | ((with_reducible apply QS_assertSN); exact rfl; (simp only [Pt.ty]; decide)) | ((with_reducible apply QS_assertI); exact rfl) | ((with_reducible apply QS_assertIN); exact rfl; (simp only [Pt.ty]; decide)) | ((with_reducible apply QS_assertE); exact rfl) | exact QS.auto); exact rfl) | refine GG ?_ | (refine GE ?_; (first | rintro _ _ ⟨rfl, rfl⟩ | rintro _ _ ⟨g, rfl, rfl⟩ | rintro _ _ ⟨A', c', rfl, rfl⟩); (try refine ⟨SUB, ?_⟩)) | (refine GO2 ?_ ?_ <;> (refine Zs ?_; intro h; try exact Zx)) | refine GOF ?_ ?_ | ((with_reducible (first | apply TD_e2z | apply TD_e3z | apply TL_e | apply TD_e2 | apply TD_e3)); ((with_reducible apply ES_callX (f := 57) (X := Option Addr × Nat) (S1 := [entBldr 63 5 b _ _ _]) (fun _ => .tuple #[.int .i64 (List.length _), .nilIface]) (fun x => [entBldr 63 5 b x.1 x.2 (_ ++ _)])); exact rfl; exact Zp; (intro x; (try dsimp only); exact Za); (intro w hw; exact bwrite_mem _ _ (by (try simp only [List.length_append, List.length_cons, List.length_nil]); omega) b _ _ w (hw.holds _ List.mem_cons_self).1); exact rfl); (first | exact rfl | exact ⟨rfl, rfl, rfl⟩); (rintro _ _ ⟨⟨Ax, cx⟩, rfl, rfl⟩); (try refine ⟨SUB, ?_⟩)) | ((with_reducible (first | apply TD_e2z | apply TD_e3z | apply TL_e | apply TD_e2 | apply TD_e3)); ((with_reducible apply ES_callV (f := 58)); exact rfl; (intro w hw; exact itoa_any n w (by omega) (by omega) (hT.keeps hw.keeps hoff)); exact rfl); (first | exact rfl | exact ⟨rfl, rfl, rfl⟩); (rintro _ _ ⟨rfl, rfl⟩); (try refine ⟨SUB, ?_⟩)) | ((with_reducible apply T_draw (id := 11) 5 (OT.seq [(0, 0), (0, 1), (0, 2), (0, 3), (2, 4), (3, 5)] .nil)); kernel_rfl; exact rfl; kernel_rfl; (repeat (first | with_reducible exact Blind.body | with_reducible apply Blind.seq | with_reducible apply Blind.block))) | ((with_reducible apply T_draw (id := 14) 5 (OT.seq [(0, 0), (0, 1), (0, 2), (0, 3), (2, 4), (3, 5)] .nil)); kernel_rfl; exact rfl; kernel_rfl; (repeat (first | with_reducible exact Blind.body | with_reducible apply Blind.seq | with_reducible apply Blind.block))) | fail)
      all_goals first | (exfalso; contradiction) | skip
      all_goals
        apply At_rounds (k + 1, Ax, cx)
        (case hE => (try dsimp only); exact Ze)
        (case hS => (try dsimp only); rw [hws]; first | (rw [if_neg (by omega)]; simp only [List.append_assoc]; exact fun w' hw => hw.sel Zl) | (rw [if_pos (by omega), hL0 (by omega)]; simp only [List.append_assoc, List.nil_append]; exact fun w' hw => hw.sel Zl))
        (case hμ => (try dsimp only); omega)
        (case hp => (try dsimp only); omega)
    | err n =>
      have hpl : (itoa n).length ≤ 100 := hpl
      obtain ⟨hn0, hn1⟩ := hpo
      replace hws : wordsTo ps (k + 1) = if k = 0 then itoa n else L ++ [32] ++ itoa n := hws
      repeat' (first | ((first | with_reducible (first | apply TL_q | apply TD_q0 | apply TD_q1 | apply TD_q2 | apply TD_q3) | ((with_reducible (first | apply TD_q0y | apply TD_q1y)); exact rfl; exact rfl; (with_reducible exact rfl))); (first | ((with_reducible apply QS_load); exact rfl; exact Lds.rd1 (enc := Pt.enc) hA hbF hkl (by rw [← hp]; rfl)) | ((with_reducible apply QS_assertS); exact rfl) | ((with_reducible apply QS_assertSN); exact rfl; (simp only [Pt.ty]; decide)) | ((with_reducible apply QS_assertI); exact rfl) | ((with_reducible apply QS_assertIN); exact rfl; (simp only [Pt.ty]; decide)) | ((with_reducible apply QS_assertE); exact rfl) | exact QS.auto); exact rfl) | refine GG ?_ | (refine GE ?_; (first | rintro _ _ ⟨rfl, rfl⟩ | rintro _ _ ⟨g, rfl, rfl⟩ | rintro _ _ ⟨A', c', rfl, rfl⟩); (try refine ⟨SUB, ?_⟩)) | (refine GO2 ?_ ?_ <;> (refine Zs ?_; intro h; try exact Zx)) | refine GOF ?_ ?_ | ((with_reducible (first | apply TD_e2z | apply TD_e3z | apply TL_e | apply TD_e2 | apply TD_e3)); ((with_reducible apply ES_callX (f := 57) (X := Option Addr × Nat) (S1 := [entBldr 63 5 b _ _ _]) (fun _ => .tuple #[.int .i64 (List.length _), .nilIface]) (fun x => [entBldr 63 5 b x.1 x.2 (_ ++ _)])); exact rfl; exact Zp; (intro x; (try dsimp only); exact Za); (intro w hw; exact bwrite_mem _ _ (by (try simp only [List.length_append, List.length_cons, List.length_nil]); omega) b _ _ w (hw.holds _ List.mem_cons_self).1); exact rfl); (first | exact rfl | exact ⟨rfl, rfl, rfl⟩); (rintro _ _ ⟨⟨Ax, cx⟩, rfl, rfl⟩); (try refine ⟨SUB, ?_⟩)) | ((with_reducible (first | apply TD_e2z | apply TD_e3z | apply TL_e | apply TD_e2 | apply TD_e3)); ((with_reducible apply ES_callV (f := 58)); exact rfl; (intro w hw; exact itoa_any n w (by omega) (by omega) (hT.keeps hw.keeps hoff)); exact rfl); (first | exact rfl | exact ⟨rfl, rfl, rfl⟩); (rintro _ _ ⟨rfl, rfl⟩); (try refine ⟨SUB, ?_⟩)) | ((with_reducible apply T_draw (id := 11) 5 (OT.seq [(0, 0), (0, 1), (0, 2), (0, 3), (2, 4), (3, 5)] .nil)); kernel_rfl; exact rfl; kernel_rfl; (repeat (first | with_reducible exact Blind.body | with_reducible apply Blind.seq | with_reducible apply Blind.block))) | ((with_reducible apply T_draw (id := 14) 5 (OT.seq [(0, 0), (0, 1), (0, 2), (0, 3), (2, 4), (3, 5)] .nil)); kernel_rfl; exact rfl; kernel_rfl; (repeat (first | with_reducible exact Blind.body | with_reducible apply Blind.seq | with_reducible apply Blind.block))) | fail)
      all_goals first | (exfalso; contradiction) | skip
      all_goals
        apply At_rounds (k + 1, Ax, cx)
        (case hE => (try dsimp only); exact Ze)
        (case hS => (try dsimp only); rw [hws]; first | (rw [if_neg (by omega)]; simp only [List.append_assoc]; exact fun w' hw => hw.sel Zl) | (rw [if_pos (by omega), hL0 (by omega)]; simp only [List.append_assoc, List.nil_append]; exact fun w' hw => hw.sel Zl))
        (case hμ => (try dsimp only); omega)
        (case hp => (try dsimp only); omega)
  · obtain rfl : k = ps.length := by omega
    have hall : wordsTo ps ps.length = joinL 32 (ps.map Pt.word) := by unfold wordsTo; rw [List.take_length]
    rw [hall] at hwl ⊢
    repeat' (first | ((first | with_reducible (first | apply TL_q | apply TD_q0 | apply TD_q1 | apply TD_q2 | apply TD_q3) | ((with_reducible (first | apply TD_q0y | apply TD_q1y)); exact rfl; exact rfl; (with_reducible exact rfl))); (first | ((with_reducible apply QS_load); exact rfl; exact Lds.rd1 (enc := Pt.enc) hA hbF hkl (by rw [← hp]; rfl)) | ((with_reducible apply QS_assertS); exact rfl) | ((with_reducible apply QS_assertSN); exact rfl; (simp only [Pt.ty]; decide)) | ((with_reducible apply QS_assertI); exact rfl) | ((with_reducible apply QS_assertIN); exact rfl; (simp only [Pt.ty]; decide)) | ((with_reducible apply QS_assertE); exact rfl) | exact QS.auto); exact rfl) | refine GG ?_ | (refine GE ?_; (first | rintro _ _ ⟨rfl, rfl⟩ | rintro _ _ ⟨g, rfl, rfl⟩ | rintro _ _ ⟨A', c', rfl, rfl⟩); (try refine ⟨SUB, ?_⟩)) | (refine GO2 ?_ ?_ <;> (refine Zs ?_; intro h; try exact Zx)) | refine GOF ?_ ?_ | ((with_reducible (first | apply TD_e2z | apply TD_e3z | apply TL_e | apply TD_e2 | apply TD_e3)); ((with_reducible apply ES_callX (f := 57) (X := Option Addr × Nat) (S1 := [entBldr 63 5 b _ _ _]) (fun _ => .tuple #[.int .i64 (List.length _), .nilIface]) (fun x => [entBldr 63 5 b x.1 x.2 (_ ++ _)])); exact rfl; exact Zp; (intro x; (try dsimp only); exact Za); (intro w hw; exact bwrite_mem _ _ (by (try simp only [List.length_append, List.length_cons, List.length_nil]); omega) b _ _ w (hw.holds _ List.mem_cons_self).1); exact rfl); (first | exact rfl | exact ⟨rfl, rfl, rfl⟩); (rintro _ _ ⟨⟨Ax, cx⟩, rfl, rfl⟩); (try refine ⟨SUB, ?_⟩)) | fail)
    all_goals first | (exfalso; omega) | skip
    (refine At_retN Tryz.results24 rfl (fun w' hw => ?_))
    refine ⟨(Ax, cx), rfl, ?_⟩
    unfold lnB
    rw [List.append_assoc] at hw
    exact (hw.anyN 0).sel Zl
end
end Go.Proofs.YtjdckepbihcgfaaGreatDoor

namespace Go.Proofs.YtjdckepbihcgfaaGreatDoor
open Go.RowKit Go.Lib
set_option linter.unusedSectionVars false

theorem ptOk_str {s : Bs} (h : s.length ≤ 100) : (Pt.str s).ok := h
theorem ptOk_nil : ∀ p ∈ ([] : List Pt), p.ok := fun p h => by cases h
theorem ptOk_cons {p : Pt} {ps : List Pt} (h : p.ok) (hs : ∀ q ∈ ps, q.ok) : ∀ q ∈ p :: ps, q.ok := fun q hq => by
  rcases List.mem_cons.1 hq with rfl | hq
  · exact h
  · exact hs q hq
/-- what lies apart from some entries -/
theorem apart_of {C : Ctx} {w : World} {S R : List Ent} {e : Ent} {A : Option Addr} (hw : Mem C w (S ++ R)) (he : e ∈ R) (h : ∀ b o, A = some ⟨b, o, none⟩ → e.has b) : ∀ b o, A = some ⟨b, o, none⟩ → b ∉ blks S := fun b o hA hm => by
  obtain ⟨e1, he1, hg⟩ := mem_blks.1 hm
  exact (List.pairwise_append.1 hw.apart).2.2 e1 he1 e he b hg (h b o hA)
section
variable (C : Ctx) (R : List Ent) (w : World) (b cx : Nat) (Ax : Option Addr) (l : Bs) (ps : List Pt)
variable (hw : Mem C w ([entBldr 63 5 b Ax cx l] ++ R)) (hT : TxW C.w0) (hoff : GlobOff C.F) (hl : l.length ≤ 200000) (hn : ps.length ≤ 1100) (hok : ∀ p ∈ ps, p.ok)
include hw hT hoff hl hn hok
theorem line_own (A : Option Addr) (c : Nat) (he : entOwn Pt.enc 1 20 A c ps ∈ R) : Calls Tryz.prog 24 #[.pointer (some ⟨b, 0, none⟩), .slice A ps.length c] w fun e w' => ∃ x : Option Addr × Nat, e = .returned (.tuple #[]) ∧ Mem ⟨0, blks [entBldr 63 5 b Ax cx l], w⟩ w' [entBldr 63 5 b x.1 x.2 (l ++ lnB (ps.map Pt.word))] := by
  refine line_mem b cx Ax l A c ps w (hT.keeps hw.keeps hoff) (globOff_of hT hoff hw) hl hn hok (hw.ownRd (et := 20) (c := c) (List.mem_append_right _ he) (fun _ => rfl)) (apart_of hw he fun b o e => ?_) 0 (hw.self 0)
  show (Value.slice A ps.length c).ownBlock = some b
  rw [e]; rfl
theorem line_blk (gp k : Nat) (cs : Array Value) (he : entBlk gp 20 cs ∈ R) (hcs : cs = (ps.flatMap Pt.enc).toArray) : Calls Tryz.prog 24 #[.pointer (some ⟨b, 0, none⟩), .slice (some ⟨gp, 0, none⟩) ps.length k] w fun e w' => ∃ x : Option Addr × Nat, e = .returned (.tuple #[]) ∧ Mem ⟨0, blks [entBldr 63 5 b Ax cx l], w⟩ w' [entBldr 63 5 b x.1 x.2 (l ++ lnB (ps.map Pt.word))] := by
  refine line_mem b cx Ax l (some ⟨gp, 0, none⟩) k ps w (hT.keeps hw.keeps hoff) (globOff_of hT hoff hw) hl hn hok ?_ (apart_of hw he fun b o e => ?_) 0 (hw.self 0)
  · have hb : Blk w gp 20 cs := hw.theBlk (List.mem_append_right _ he)
    intro j x hj
    have hjl : j < ps.length := (List.getElem?_eq_some_iff.1 hj).1
    have hflat : ∀ (qs : List Pt) (j : Nat) (x : Pt), qs[j]? = some x → (qs.flatMap Pt.enc)[j]? = some (.iface x.ty x.raw) := by
      intro qs
      induction qs with
      | nil => intro j x h; simp at h
      | cons q qs ih =>
        intro j x h
        cases j with
        | zero => simp at h; subst h; rfl
        | succ j => simp at h; exact ih j x (by simpa using h)
    refine ⟨gp, 0, rfl, hb.lt, fun k v hk => ?_⟩
    have hk0 : k = 0 ∧ v = .iface x.ty x.raw := by
      match k, hk with
      | 0, hk => exact ⟨rfl, (Option.some.inj hk).symm⟩
      | k + 1, hk => simp [Pt.enc] at hk
    obtain ⟨rfl, rfl⟩ := hk0
    have := hb.cell j
    rw [hcs, List.getElem?_toArray, hflat ps j x hj] at this
    simpa using this
  · cases e; exact rfl
end
end Go.Proofs.YtjdckepbihcgfaaGreatDoor

namespace Go.Proofs.YtjdckepbihcgfaaGreatDoor
open Go.RowKit Go.Lib

def wError : Bs := [101, 114, 114, 111, 114]
def wCalls : Bs := [99, 97, 108, 108, 115]
def wTime : Bs := [116, 105, 109, 101]
def wPeople : Bs := [112, 101, 111, 112, 108, 101]
def wCalm : Bs := [99, 97, 108, 109]
def wBad : Bs := [98, 97, 100]
def wNone : Bs := [110, 111, 110, 101]
def ynB (b : Bool) : Bs := if b = true then [121] else [110]
def badB (ok : Bool) (b : Bd) (e : Int) : Bs := if e ≠ 0 then lnB [wBad, wError, itoa e] else if ok = true then lnB [wBad, wNone] else lnB [wBad, itoa b.kind, itoa b.a, itoa b.b]
def smI (n : Int) : Prop := -1000000 ≤ n ∧ n ≤ 1000000
structure Bd.Sm (b : Bd) : Prop where
  kind : smI b.kind
  a : smI b.a
  b : smI b.b
end Go.Proofs.YtjdckepbihcgfaaGreatDoor

namespace Go.Proofs.YtjdckepbihcgfaaGreatDoor
open Go.RowKit Go.Lib
set_option linter.unusedSectionVars false

set_option maxRecDepth 100000 in
theorem yes_any (is : Bool) (w : World) : Calls Tryz.prog 59 #[.bool is] w fun e w' => e = .returned (bsv (ynB is)) ∧ Below w.heap.size w w' := by
  refine calls_T (S := []) [] Tryz.func59 rfl Tryz.ntmps59 (by simp) (Mem.nil _) ?_
  cases is with
  | true =>
    repeat' (first | ((first | with_reducible (first | apply TL_q | apply TD_q0 | apply TD_q1 | apply TD_q2 | apply TD_q3) | ((with_reducible (first | apply TD_q0y | apply TD_q1y)); exact rfl; exact rfl; (with_reducible exact rfl))); (first | ((with_reducible apply QS_makeInterface); exact rfl) | exact QS.auto); exact rfl) | refine GO ?_ | (refine GOE ?_; (first | rintro _ _ ⟨rfl, rfl⟩ | rintro _ _ ⟨g, rfl, rfl⟩ | rintro _ _ ⟨A', c', rfl, rfl⟩)) | (refine GO2 ?_ ?_ <;> (refine Zs ?_; intro h; try exact Zx)) | fail)
    all_goals ((refine At_ret Tryz.results59 rfl (fun w' hw => ?_)); exact ⟨rfl, hw.below0 rfl⟩)
  | false =>
    repeat' (first | ((first | with_reducible (first | apply TL_q | apply TD_q0 | apply TD_q1 | apply TD_q2 | apply TD_q3) | ((with_reducible (first | apply TD_q0y | apply TD_q1y)); exact rfl; exact rfl; (with_reducible exact rfl))); (first | ((with_reducible apply QS_makeInterface); exact rfl) | exact QS.auto); exact rfl) | refine GO ?_ | (refine GOE ?_; (first | rintro _ _ ⟨rfl, rfl⟩ | rintro _ _ ⟨g, rfl, rfl⟩ | rintro _ _ ⟨A', c', rfl, rfl⟩)) | (refine GO2 ?_ ?_ <;> (refine Zs ?_; intro h; try exact Zx)) | fail)
    all_goals ((refine At_ret Tryz.results59 rfl (fun w' hw => ?_)); exact ⟨rfl, hw.below0 rfl⟩)
section
variable (b cx : Nat) (Ax : Option Addr) (l : Bs) (W : World) (hT : TxW W) (hoff : GlobOff (blks [entBldr 63 5 b Ax cx l])) (hl : l.length ≤ 20000) (n0 : Nat) (hm : Mem ⟨n0, blks [entBldr 63 5 b Ax cx l], W⟩ W [entBldr 63 5 b Ax cx l])
include hT hoff hl hm
set_option maxRecDepth 100000 in
set_option maxHeartbeats 4000000 in
theorem bad_mem (ok : Bool) (bd : Bd) (er : Int) (hb : bd.Sm) (he : smI er) : Calls Tryz.prog 60 #[.pointer (some ⟨b, 0, none⟩), .bool ok, .agg (Bd.enc bd).toArray, .int .i64 er] W fun e w' => ∃ x : Option Addr × Nat, e = .returned (.tuple #[]) ∧ Mem ⟨0, blks [entBldr 63 5 b Ax cx l], W⟩ w' [entBldr 63 5 b x.1 x.2 (l ++ badB ok bd er)] := by
  obtain ⟨F, hF⟩ : ∃ F, F = blks [entBldr 63 5 b Ax cx l] := ⟨_, rfl⟩
  rw [← hF] at hoff hm ⊢
  clear hF
  obtain ⟨kd, a1, a2⟩ := bd
  obtain ⟨hb1, hb2, hb3⟩ := hb
  refine calls_T (S := [entBldr 63 5 b Ax cx l]) F Tryz.func60 rfl Tryz.ntmps60 (by simp) (hm.anyN _) ?_
  by_cases h0 : er = 0
  · subst h0
    cases ok with
    | true =>
      rw [show badB true ⟨kd, a1, a2⟩ 0 = lnB (([Pt.str wBad, Pt.str wNone] : List Pt).map Pt.word) by unfold badB; rw [if_neg (by decide), if_pos rfl]; rfl]
      repeat' (first | ((first | with_reducible (first | apply TL_q | apply TD_q0 | apply TD_q1 | apply TD_q2 | apply TD_q3) | ((with_reducible (first | apply TD_q0y | apply TD_q1y)); exact rfl; exact rfl; (with_reducible exact rfl))); (first | ((with_reducible apply QS_makeInterface); exact rfl) | exact QS.auto); exact rfl) | refine GG ?_ | (refine GE ?_; (first | rintro _ _ ⟨rfl, rfl⟩ | rintro _ _ ⟨g, rfl, rfl⟩ | rintro _ _ ⟨A', c', rfl, rfl⟩); (try refine ⟨SUB, ?_⟩)) | (refine GO2 ?_ ?_ <;> (refine Zs ?_; intro h; try exact Zx)) | refine GOF ?_ ?_ | ((with_reducible (first | apply TD_e2z | apply TD_e3z | apply TL_e | apply TD_e2 | apply TD_e3)); ((with_reducible apply ES_callX (f := 24) (X := Option Addr × Nat) (S1 := [entBldr 63 5 b _ _ _]) (fun _ => .tuple #[]) (fun x => [entBldr 63 5 b x.1 x.2 (_ ++ lnB (([Pt.str wBad, Pt.str wNone] : List Pt).map Pt.word))])); exact rfl; exact Zp; (intro x; (try dsimp only); exact Za); (intro w hw; exact line_blk _ _ w b _ _ _ [Pt.str wBad, Pt.str wNone] hw hT hoff (by (try simp only [List.length_append, List.length_cons, List.length_nil]); omega) (by simp only [List.length_cons, List.length_nil]; omega) (ptOk_cons (p := Pt.str wBad) (ptOk_str (by decide)) (ptOk_cons (p := Pt.str wNone) (ptOk_str (by decide)) ptOk_nil)) _ _ _ Zm rfl); exact rfl); (first | exact rfl | exact ⟨rfl, rfl, rfl⟩); (rintro _ _ ⟨⟨Ax, cx⟩, rfl, rfl⟩); (try refine ⟨SUB, ?_⟩)) | fail)
      all_goals first | (exfalso; contradiction) | skip
      all_goals
        (refine At_retN Tryz.results60 rfl (fun w' hw => ?_))
        exact ⟨(Ax, cx), rfl, (hw.anyN 0).sel Zl⟩
    | false =>
      rw [show badB false ⟨kd, a1, a2⟩ 0 = lnB (([Pt.str wBad, Pt.int kd, Pt.int a1, Pt.int a2] : List Pt).map Pt.word) by unfold badB; rw [if_neg (by decide), if_neg (by decide)]; rfl]
      repeat' (first | ((first | with_reducible (first | apply TL_q | apply TD_q0 | apply TD_q1 | apply TD_q2 | apply TD_q3) | ((with_reducible (first | apply TD_q0y | apply TD_q1y)); exact rfl; exact rfl; (with_reducible exact rfl))); (first | ((with_reducible apply QS_makeInterface); exact rfl) | exact QS.auto); exact rfl) | refine GG ?_ | (refine GE ?_; (first | rintro _ _ ⟨rfl, rfl⟩ | rintro _ _ ⟨g, rfl, rfl⟩ | rintro _ _ ⟨A', c', rfl, rfl⟩); (try refine ⟨SUB, ?_⟩)) | (refine GO2 ?_ ?_ <;> (refine Zs ?_; intro h; try exact Zx)) | refine GOF ?_ ?_ | ((with_reducible (first | apply TD_e2z | apply TD_e3z | apply TL_e | apply TD_e2 | apply TD_e3)); ((with_reducible apply ES_callX (f := 24) (X := Option Addr × Nat) (S1 := [entBldr 63 5 b _ _ _]) (fun _ => .tuple #[]) (fun x => [entBldr 63 5 b x.1 x.2 (_ ++ lnB (([Pt.str wBad, Pt.int kd, Pt.int a1, Pt.int a2] : List Pt).map Pt.word))])); exact rfl; exact Zp; (intro x; (try dsimp only); exact Za); (intro w hw; exact line_blk _ _ w b _ _ _ [Pt.str wBad, Pt.int kd, Pt.int a1, Pt.int a2] hw hT hoff (by (try simp only [List.length_append, List.length_cons, List.length_nil]); omega) (by simp only [List.length_cons, List.length_nil]; omega) (ptOk_cons (p := Pt.str wBad) (ptOk_str (by decide)) (ptOk_cons (p := Pt.int kd) hb1 (ptOk_cons (p := Pt.int a1) hb2 (ptOk_cons (p := Pt.int a2) hb3 ptOk_nil)))) _ _ _ Zm rfl); exact rfl); (first | exact rfl | exact ⟨rfl, rfl, rfl⟩); (rintro _ _ ⟨⟨Ax, cx⟩, rfl, rfl⟩); (try refine ⟨SUB, ?_⟩)) | fail)
      all_goals first | (exfalso; contradiction) | skip
      all_goals
        (refine At_retN Tryz.results60 rfl (fun w' hw => ?_))
        exact ⟨(Ax, cx), rfl, (hw.anyN 0).sel Zl⟩
  · have hbb : badB ok ⟨kd, a1, a2⟩ er = lnB (([Pt.str wBad, Pt.str wError, Pt.err er] : List Pt).map Pt.word) := if_pos h0
    rw [hbb]
    repeat' (first | ((first | with_reducible (first | apply TL_q | apply TD_q0 | apply TD_q1 | apply TD_q2 | apply TD_q3) | ((with_reducible (first | apply TD_q0y | apply TD_q1y)); exact rfl; exact rfl; (with_reducible exact rfl))); (first | ((with_reducible apply QS_makeInterface); exact rfl) | exact QS.auto); exact rfl) | refine GG ?_ | (refine GE ?_; (first | rintro _ _ ⟨rfl, rfl⟩ | rintro _ _ ⟨g, rfl, rfl⟩ | rintro _ _ ⟨A', c', rfl, rfl⟩); (try refine ⟨SUB, ?_⟩)) | (refine GO2 ?_ ?_ <;> (refine Zs ?_; intro h; try exact Zx)) | refine GOF ?_ ?_ | ((with_reducible (first | apply TD_e2z | apply TD_e3z | apply TL_e | apply TD_e2 | apply TD_e3)); ((with_reducible apply ES_callX (f := 24) (X := Option Addr × Nat) (S1 := [entBldr 63 5 b _ _ _]) (fun _ => .tuple #[]) (fun x => [entBldr 63 5 b x.1 x.2 (_ ++ lnB (([Pt.str wBad, Pt.str wError, Pt.err er] : List Pt).map Pt.word))])); exact rfl; exact Zp; (intro x; (try dsimp only); exact Za); (intro w hw; exact line_blk _ _ w b _ _ _ [Pt.str wBad, Pt.str wError, Pt.err er] hw hT hoff (by (try simp only [List.length_append, List.length_cons, List.length_nil]); omega) (by simp only [List.length_cons, List.length_nil]; omega) (ptOk_cons (p := Pt.str wBad) (ptOk_str (by decide)) (ptOk_cons (p := Pt.str wError) (ptOk_str (by decide)) (ptOk_cons (p := Pt.err er) he ptOk_nil))) _ _ _ Zm rfl); exact rfl); (first | exact rfl | exact ⟨rfl, rfl, rfl⟩); (rintro _ _ ⟨⟨Ax, cx⟩, rfl, rfl⟩); (try refine ⟨SUB, ?_⟩)) | fail)
    all_goals first | (exfalso; contradiction) | skip
    all_goals
      (refine At_retN Tryz.results60 rfl (fun w' hw => ?_))
      exact ⟨(Ax, cx), rfl, (hw.anyN 0).sel Zl⟩
end
end Go.Proofs.YtjdckepbihcgfaaGreatDoor

namespace Go.Proofs.YtjdckepbihcgfaaGreatDoor
open Go.RowKit Go.Lib

def stepsB (w : List Stp) : List Bs := w.flatMap fun s => [itoa s.call, itoa s.res]
def witB (ts : List Int) (l : List Ev) : Bs :=
  lnB (wTime :: ynB (findS ts l relAhead).isSome :: stepsB ((findS ts l relAhead).getD [])) ++ lnB [wPeople, ynB (findS ts l relPeople).isSome] ++ lnB [wCalm, ynB (findS ts l relCalm).isSome]
end Go.Proofs.YtjdckepbihcgfaaGreatDoor

namespace Go.Proofs.YtjdckepbihcgfaaGreatDoor
open Go.RowKit Go.Lib
set_option linter.unusedSectionVars false

theorem yn_len (b : Bool) : (ynB b).length ≤ 100 := by cases b <;> decide
def stepPts (w : List Stp) : List Pt := w.flatMap fun s => [Pt.int s.call, Pt.int s.res]
def timePts (ok : Bool) (w : List Stp) : List Pt := [Pt.str wTime, Pt.str (ynB ok)] ++ stepPts w
theorem timePts_zero (ok : Bool) (w : List Stp) : timePts ok (w.take 0) = [Pt.str wTime, Pt.str (ynB ok)] := rfl
theorem timePts_succ (ok : Bool) {w : List Stp} {k : Nat} (hk : k < w.length) : timePts ok (w.take (k + 1)) = timePts ok (w.take k) ++ [Pt.int w[k].call, Pt.int w[k].res] := by
  unfold timePts stepPts
  rw [List.take_succ_eq_append_getElem hk, List.flatMap_append, List.append_assoc]; simp
theorem stepPts_len (w : List Stp) : (stepPts w).length = 2 * w.length := by
  induction w with
  | nil => rfl
  | cons s w ih =>
    unfold stepPts at ih ⊢
    rw [List.flatMap_cons, List.length_append, ih]; simp; omega
theorem timePts_len (ok : Bool) (w : List Stp) : (timePts ok w).length = 2 + 2 * w.length := by
  unfold timePts
  rw [List.length_append, stepPts_len]; rfl
theorem timePts_word (ok : Bool) (w : List Stp) : (timePts ok w).map Pt.word = wTime :: ynB ok :: stepsB w := by
  unfold timePts
  rw [List.map_append]
  have : (stepPts w).map Pt.word = stepsB w := by
    induction w with
    | nil => rfl
    | cons s w ih =>
      unfold stepPts stepsB at ih ⊢
      rw [List.flatMap_cons, List.flatMap_cons, List.map_append, ih]; rfl
  rw [this]; rfl
theorem timePts_ok (ok : Bool) {w : List Stp} (h : ∀ s ∈ w, smI s.call ∧ smI s.res) : ∀ p ∈ timePts ok w, p.ok := by
  intro p hp
  unfold timePts at hp
  rcases List.mem_append.1 hp with hp | hp
  · exact ptOk_cons (p := Pt.str wTime) (ptOk_str (by decide)) (ptOk_cons (p := Pt.str (ynB ok)) (ptOk_str (yn_len ok)) ptOk_nil) p hp
  · obtain ⟨s, hs, hm⟩ := List.mem_flatMap.1 hp
    rcases List.mem_cons.1 hm with rfl | hm
    · exact (h s hs).1
    · rw [List.mem_singleton] at hm
      subst hm
      exact (h s hs).2
theorem find_small {ts : List Int} {l : List Ev} {F : List Cl → Nat → Nat} : (∀ s ∈ (findS ts l F).getD [], smI s.call ∧ smI s.res) ∧ ((findS ts l F).getD []).length ≤ 9 := by
  cases h : findS ts l F with
  | none => exact ⟨fun s hs => (by cases hs), by simp⟩
  | some r =>
    obtain ⟨h1, h2, _, h4⟩ := find_steps h
    refine ⟨fun s hs => ?_, h4⟩
    have hr := h2.res s hs
    have hc := h2.call s hs
    have hl : (fewS ts l).1.length ≤ 9 := by
      unfold fewS
      repeat' split
      all_goals first | (simp; done) | (dsimp only; omega)
    unfold smI
    omega
theorem lnB_len {ws : List Bs} (h : ∀ x ∈ ws, x.length ≤ 100) : (lnB ws).length ≤ ws.length * 101 + 1 := by
  have key : ∀ ws : List Bs, (∀ x ∈ ws, x.length ≤ 100) → (joinL 32 ws).length ≤ ws.length * 101 := by
    intro ws
    induction ws with
    | nil => intro _; simp [joinL]
    | cons a r ih =>
      intro h
      have ha := h a List.mem_cons_self
      have hr := ih fun x hx => h x (List.mem_cons_of_mem _ hx)
      cases r with
      | nil => simp only [joinL, List.length_cons, List.length_nil]; omega
      | cons b r =>
        rw [joinL, List.length_append, List.length_cons]
        simp only [List.length_cons] at hr ⊢
        omega
  have := key ws h
  unfold lnB
  rw [List.length_append, List.length_singleton]; omega
section
variable (b cx : Nat) (Ax : Option Addr) (l0 : Bs) (A1 B1 : Option Addr) (c1 d1 : Nat) (ts : List Int) (l : List Ev) (W : World) (hT : TxW W) (hoff : GlobOff (blks [entBldr 63 5 b Ax cx l0])) (hl0 : l0.length ≤ 2000) (hts : ts.length ≤ 9223372036854775807) (hl : l.length ≤ 9223372036854775807) (hA : RdInt W A1 ts) (hB : RdEv W B1 l)
  (hwA : ∀ b' o, A1 = some ⟨b', o, none⟩ → b' ∉ blks [entBldr 63 5 b Ax cx l0]) (hwB : ∀ b' o, B1 = some ⟨b', o, none⟩ → b' ∉ blks [entBldr 63 5 b Ax cx l0]) (n0 : Nat) (hm : Mem ⟨n0, blks [entBldr 63 5 b Ax cx l0], W⟩ W [entBldr 63 5 b Ax cx l0])
include hT hoff hl0 hts hl hA hB hwA hwB hm
set_option maxRecDepth 100000 in
set_option maxHeartbeats 4000000 in
theorem witnesses_mem : Calls Tryz.prog 26 #[.pointer (some ⟨b, 0, none⟩), .slice A1 ts.length c1, .slice B1 l.length d1] W fun e w' => ∃ x : Option Addr × Nat, e = .returned (.tuple #[]) ∧ Mem ⟨0, blks [entBldr 63 5 b Ax cx l0], W⟩ w' [entBldr 63 5 b x.1 x.2 (l0 ++ witB ts l)] := by
  obtain ⟨F, hF⟩ : ∃ F, F = blks [entBldr 63 5 b Ax cx l0] := ⟨_, rfl⟩
  rw [← hF] at hoff hwA hwB hm ⊢
  clear hF
  have hf1 := fun w h1 h2 => searchFind_any A1 B1 c1 d1 ts l w hts hl h1 h2
  have hf2 := fun w h1 h2 => seqFind_any A1 B1 c1 d1 ts l w hts hl h1 h2
  have hf3 := fun w h1 h2 => seqQuiet_any A1 B1 c1 d1 ts l w hts hl h1 h2
  obtain ⟨hsm, h9⟩ := find_small (ts := ts) (l := l) (F := relAhead)
  have h92 := (find_small (ts := ts) (l := l) (F := relPeople)).2
  have h93 := (find_small (ts := ts) (l := l) (F := relCalm)).2
  unfold witB
  rw [← timePts_word]
  have htl := lnB_len (ws := (timePts (findS ts l relAhead).isSome ((findS ts l relAhead).getD [])).map Pt.word) (fun x hx => by
    obtain ⟨p, hp, rfl⟩ := List.mem_map.1 hx
    exact Pt.word_len (timePts_ok _ hsm p hp))
  rw [List.length_map, timePts_len] at htl
  generalize (findS ts l relAhead).isSome = k1 at *
  generalize (findS ts l relAhead).getD [] = r1 at *
  generalize (findS ts l relPeople).isSome = k2 at *
  generalize (findS ts l relPeople).getD [] = r2 at *
  generalize (findS ts l relCalm).isSome = k3 at *
  generalize (findS ts l relCalm).getD [] = r3 at *
  refine calls_T (S := [entBldr 63 5 b Ax cx l0]) F Tryz.func26 rfl Tryz.ntmps26 (by simp) (hm.anyN _) ?_
  repeat' (first | ((first | with_reducible (first | apply TL_q | apply TD_q0 | apply TD_q1 | apply TD_q2 | apply TD_q3) | ((with_reducible (first | apply TD_q0y | apply TD_q1y)); exact rfl; exact rfl; (with_reducible exact rfl))); (first | ((with_reducible apply QS_makeInterface); exact rfl) | exact QS.auto); exact rfl) | refine GG ?_ | (refine GE ?_; (first | rintro _ _ ⟨rfl, rfl⟩ | rintro _ _ ⟨g, rfl, rfl⟩ | rintro _ _ ⟨A', c', rfl, rfl⟩); (try refine ⟨SUB, ?_⟩)) | (refine GO2 ?_ ?_ <;> (refine Zs ?_; intro h; try exact Zx)) | refine GOF ?_ ?_ | ((with_reducible (first | apply TD_e2z | apply TD_e3z | apply TL_e | apply TD_e2 | apply TD_e3)); ((with_reducible apply ES_callOwn (f := 9)); exact rfl; (intro w hw; exact hf1 w (hw.rdAwayF hA hwA) (hw.rdAwayF hB hwB)); exact rfl); (first | exact rfl | exact ⟨rfl, rfl, rfl⟩); (rintro _ _ ⟨A2, c2, rfl, rfl⟩); (try refine ⟨SUB, ?_⟩)) | ((with_reducible (first | apply TD_e2z | apply TD_e3z | apply TL_e | apply TD_e2 | apply TD_e3)); ((with_reducible apply ES_callV (f := 59)); exact rfl; (intro w hw; exact yes_any _ w); exact rfl); (first | exact rfl | exact ⟨rfl, rfl, rfl⟩); (rintro _ _ ⟨rfl, rfl⟩); (try refine ⟨SUB, ?_⟩)) | fail)
  refine T_loop (X := Nat × Option Addr × Nat) (fun x => [(26, .int .i64 (x.1 : Nat)), (25, .int .i64 r1.length), (24, .slice A2 r1.length c2), (9, .slice x.2.1 (timePts k1 (r1.take x.1)).length x.2.2), (0, .pointer (some ⟨b, 0, none⟩)), (1, .slice A1 ts.length c1), (2, .slice B1 l.length d1)]) (fun x => [entBldr 63 5 b Ax cx l0, entOwn Pt.enc 1 20 x.2.1 x.2.2 (timePts k1 (r1.take x.1)), entOwn Stp.enc 2 49 A2 c2 r1])
    (fun x => x.1 ≤ r1.length) (fun x => r1.length - x.1) (0, some ⟨g, 0, none⟩, 2) (by (try dsimp only); omega) (by (try dsimp only); exact Ze) (fun w' hw => by (try dsimp only); rw [timePts_zero]; have h2 := Mem.asOwn (enc := Pt.enc) (M := 1) [Pt.str wTime, Pt.str (ynB k1)] Zu rfl (fun _ => rfl) (by show 2 ≤ maxLen; decide) hw; rw [show [Pt.str wTime, Pt.str (ynB k1)].length = 2 from rfl] at h2; exact h2.sel Zl) ?_
  rintro ⟨k, A5, c5⟩ hk
  dsimp only at hk ⊢
  have hpl := timePts_len k1 (r1.take k)
  rw [List.length_take] at hpl
  by_cases hkl : k < r1.length
  · have hks := timePts_succ k1 hkl
    generalize hK : timePts k1 (r1.take k) = K at *
    refine T_own (enc := Stp.enc) (ls := r1) Zm (by omega) ?_
    rintro gs rfl
    repeat' (first | ((first | with_reducible (first | apply TL_q | apply TD_q0 | apply TD_q1 | apply TD_q2 | apply TD_q3) | ((with_reducible (first | apply TD_q0y | apply TD_q1y)); exact rfl; exact rfl; (with_reducible exact rfl))); (first | ((with_reducible apply QS_makeInterface); exact rfl) | exact QS.auto); exact rfl) | refine GG ?_ | (refine GE ?_; (first | rintro _ _ ⟨rfl, rfl⟩ | rintro _ _ ⟨g, rfl, rfl⟩ | rintro _ _ ⟨A', c', rfl, rfl⟩); (try refine ⟨SUB, ?_⟩)) | (refine GO2 ?_ ?_ <;> (refine Zs ?_; intro h; try exact Zx)) | refine GOF ?_ ?_ | ((with_reducible (first | apply TD_e2z | apply TD_e3z | apply TL_e | apply TD_e2 | apply TD_e3)); ((with_reducible apply ES_append (enc := Pt.enc) (xs := [Pt.int r1[k].call, Pt.int r1[k].res]) (ls := K)); exact rfl; exact rfl; exact Lies.blk Zm; exact fun _ => rfl; exact fun _ => rfl; (intro A' c'; first | ((repeat (first | with_reducible exact Upd.here _ _ _ | with_reducible apply Upd.there)); done) | (repeat (first | exact Upd.here _ _ _ | apply Upd.there))); ((simp only [List.length_cons, List.length_nil]; omega)); decide; exact rfl); (first | exact rfl | exact ⟨rfl, rfl, rfl⟩); (rintro _ _ ⟨A', c', rfl, rfl⟩); (try refine ⟨SUB, ?_⟩)) | fail)
    all_goals first | (exfalso; omega) | skip
    all_goals
      apply At_rounds (k + 1, A', c')
      (case hE => (try dsimp only); rw [hks]; exact Ze)
      (case hS => (try dsimp only); rw [hks]; exact fun w' hw => hw.sel Zl)
      (case hμ => (try dsimp only); omega)
      (case hp => (try dsimp only); omega)
  · obtain rfl : k = r1.length := by omega
    rw [List.take_length] at hpl ⊢
    have hKo := timePts_ok k1 hsm
    have hKn : (timePts k1 r1).length ≤ 1100 := by omega
    generalize timePts k1 r1 = K at *
    have hp2 : (lnB (([Pt.str wPeople, Pt.str (ynB k2)] : List Pt).map Pt.word)).length ≤ 203 := lnB_len (ws := [wPeople, ynB k2]) (by
      intro x hx
      rcases List.mem_cons.1 hx with rfl | hx
      · decide
      · rw [List.mem_singleton.1 hx]; exact yn_len k2)
    repeat' (first | ((first | with_reducible (first | apply TL_q | apply TD_q0 | apply TD_q1 | apply TD_q2 | apply TD_q3) | ((with_reducible (first | apply TD_q0y | apply TD_q1y)); exact rfl; exact rfl; (with_reducible exact rfl))); (first | ((with_reducible apply QS_makeInterface); exact rfl) | exact QS.auto); exact rfl) | refine GG ?_ | (refine GE ?_; (first | rintro _ _ ⟨rfl, rfl⟩ | rintro _ _ ⟨g, rfl, rfl⟩ | rintro _ _ ⟨A', c', rfl, rfl⟩); (try refine ⟨SUB, ?_⟩)) | (refine GO2 ?_ ?_ <;> (refine Zs ?_; intro h; try exact Zx)) | refine GOF ?_ ?_ | fail)
    (first | ((with_reducible (first | apply TD_e2z | apply TD_e3z | apply TL_e | apply TD_e2 | apply TD_e3)); ((with_reducible apply ES_callX (f := 24) (X := Option Addr × Nat) (S1 := [entBldr 63 5 b _ _ _]) (fun _ => .tuple #[]) (fun x => [entBldr 63 5 b x.1 x.2 (_ ++ lnB ((K : List Pt).map Pt.word))])); exact rfl; exact Zp; (intro x; (try dsimp only); exact Za); (intro w hw; exact line_own _ _ w b _ _ _ K hw hT hoff (by (try simp only [List.length_append, List.length_cons, List.length_nil]); omega) hKn hKo _ _ Zm); exact rfl); (first | exact rfl | exact ⟨rfl, rfl, rfl⟩); (rintro _ _ ⟨⟨Ax, cx⟩, rfl, rfl⟩); (try refine ⟨SUB, ?_⟩)) | fail)
    repeat' (first | ((first | with_reducible (first | apply TL_q | apply TD_q0 | apply TD_q1 | apply TD_q2 | apply TD_q3) | ((with_reducible (first | apply TD_q0y | apply TD_q1y)); exact rfl; exact rfl; (with_reducible exact rfl))); (first | ((with_reducible apply QS_makeInterface); exact rfl) | exact QS.auto); exact rfl) | refine GG ?_ | (refine GE ?_; (first | rintro _ _ ⟨rfl, rfl⟩ | rintro _ _ ⟨g, rfl, rfl⟩ | rintro _ _ ⟨A', c', rfl, rfl⟩); (try refine ⟨SUB, ?_⟩)) | (refine GO2 ?_ ?_ <;> (refine Zs ?_; intro h; try exact Zx)) | refine GOF ?_ ?_ | ((with_reducible (first | apply TD_e2z | apply TD_e3z | apply TL_e | apply TD_e2 | apply TD_e3)); ((with_reducible apply ES_callOwn (f := 10)); exact rfl; (intro w hw; exact hf2 w (hw.rdAwayF hA hwA) (hw.rdAwayF hB hwB)); exact rfl); (first | exact rfl | exact ⟨rfl, rfl, rfl⟩); (rintro _ _ ⟨A3, c3, rfl, rfl⟩); (try refine ⟨SUB, ?_⟩)) | ((with_reducible (first | apply TD_e2z | apply TD_e3z | apply TL_e | apply TD_e2 | apply TD_e3)); ((with_reducible apply ES_callV (f := 59)); exact rfl; (intro w hw; exact yes_any _ w); exact rfl); (first | exact rfl | exact ⟨rfl, rfl, rfl⟩); (rintro _ _ ⟨rfl, rfl⟩); (try refine ⟨SUB, ?_⟩)) | fail)
    (first | ((with_reducible (first | apply TD_e2z | apply TD_e3z | apply TL_e | apply TD_e2 | apply TD_e3)); ((with_reducible apply ES_callX (f := 24) (X := Option Addr × Nat) (S1 := [entBldr 63 5 b _ _ _]) (fun _ => .tuple #[]) (fun x => [entBldr 63 5 b x.1 x.2 (_ ++ lnB (([Pt.str wPeople, Pt.str (ynB k2)] : List Pt).map Pt.word))])); exact rfl; exact Zp; (intro x; (try dsimp only); exact Za); (intro w hw; exact line_blk _ _ w b _ _ _ [Pt.str wPeople, Pt.str (ynB k2)] hw hT hoff (by (try simp only [List.length_append, List.length_cons, List.length_nil]); omega) (by simp only [List.length_cons, List.length_nil]; omega) (ptOk_cons (p := Pt.str wPeople) (ptOk_str (by decide)) (ptOk_cons (p := Pt.str (ynB k2)) (ptOk_str (yn_len k2)) ptOk_nil)) _ _ _ Zm rfl); exact rfl); (first | exact rfl | exact ⟨rfl, rfl, rfl⟩); (rintro _ _ ⟨⟨Ax, cx⟩, rfl, rfl⟩); (try refine ⟨SUB, ?_⟩)) | fail)
    repeat' (first | ((first | with_reducible (first | apply TL_q | apply TD_q0 | apply TD_q1 | apply TD_q2 | apply TD_q3) | ((with_reducible (first | apply TD_q0y | apply TD_q1y)); exact rfl; exact rfl; (with_reducible exact rfl))); (first | ((with_reducible apply QS_makeInterface); exact rfl) | exact QS.auto); exact rfl) | refine GG ?_ | (refine GE ?_; (first | rintro _ _ ⟨rfl, rfl⟩ | rintro _ _ ⟨g, rfl, rfl⟩ | rintro _ _ ⟨A', c', rfl, rfl⟩); (try refine ⟨SUB, ?_⟩)) | (refine GO2 ?_ ?_ <;> (refine Zs ?_; intro h; try exact Zx)) | refine GOF ?_ ?_ | ((with_reducible (first | apply TD_e2z | apply TD_e3z | apply TL_e | apply TD_e2 | apply TD_e3)); ((with_reducible apply ES_callOwn (f := 11)); exact rfl; (intro w hw; exact hf3 w (hw.rdAwayF hA hwA) (hw.rdAwayF hB hwB)); exact rfl); (first | exact rfl | exact ⟨rfl, rfl, rfl⟩); (rintro _ _ ⟨A4, c4, rfl, rfl⟩); (try refine ⟨SUB, ?_⟩)) | ((with_reducible (first | apply TD_e2z | apply TD_e3z | apply TL_e | apply TD_e2 | apply TD_e3)); ((with_reducible apply ES_callV (f := 59)); exact rfl; (intro w hw; exact yes_any _ w); exact rfl); (first | exact rfl | exact ⟨rfl, rfl, rfl⟩); (rintro _ _ ⟨rfl, rfl⟩); (try refine ⟨SUB, ?_⟩)) | fail)
    (first | ((with_reducible (first | apply TD_e2z | apply TD_e3z | apply TL_e | apply TD_e2 | apply TD_e3)); ((with_reducible apply ES_callX (f := 24) (X := Option Addr × Nat) (S1 := [entBldr 63 5 b _ _ _]) (fun _ => .tuple #[]) (fun x => [entBldr 63 5 b x.1 x.2 (_ ++ lnB (([Pt.str wCalm, Pt.str (ynB k3)] : List Pt).map Pt.word))])); exact rfl; exact Zp; (intro x; (try dsimp only); exact Za); (intro w hw; exact line_blk _ _ w b _ _ _ [Pt.str wCalm, Pt.str (ynB k3)] hw hT hoff (by (try simp only [List.length_append, List.length_cons, List.length_nil]); omega) (by simp only [List.length_cons, List.length_nil]; omega) (ptOk_cons (p := Pt.str wCalm) (ptOk_str (by decide)) (ptOk_cons (p := Pt.str (ynB k3)) (ptOk_str (yn_len k3)) ptOk_nil)) _ _ _ Zm rfl); exact rfl); (first | exact rfl | exact ⟨rfl, rfl, rfl⟩); (rintro _ _ ⟨⟨Ax, cx⟩, rfl, rfl⟩); (try refine ⟨SUB, ?_⟩)) | fail)
    repeat' (first | ((first | with_reducible (first | apply TL_q | apply TD_q0 | apply TD_q1 | apply TD_q2 | apply TD_q3) | ((with_reducible (first | apply TD_q0y | apply TD_q1y)); exact rfl; exact rfl; (with_reducible exact rfl))); (first | ((with_reducible apply QS_makeInterface); exact rfl) | exact QS.auto); exact rfl) | refine GG ?_ | (refine GE ?_; (first | rintro _ _ ⟨rfl, rfl⟩ | rintro _ _ ⟨g, rfl, rfl⟩ | rintro _ _ ⟨A', c', rfl, rfl⟩); (try refine ⟨SUB, ?_⟩)) | (refine GO2 ?_ ?_ <;> (refine Zs ?_; intro h; try exact Zx)) | refine GOF ?_ ?_ | fail)
    all_goals first | (exfalso; omega) | skip
    (refine At_retN Tryz.results26 rfl (fun w' hw => ?_))
    refine ⟨(Ax, cx), rfl, ?_⟩
    rw [← List.append_assoc, ← List.append_assoc]
    show Mem _ _ [entBldr 63 5 b Ax cx (l0 ++ lnB (K.map Pt.word) ++ lnB (([Pt.str wPeople, Pt.str (ynB k2)] : List Pt).map Pt.word) ++ lnB (([Pt.str wCalm, Pt.str (ynB k3)] : List Pt).map Pt.word))]
    exact (hw.anyN 0).sel Zl
end
end Go.Proofs.YtjdckepbihcgfaaGreatDoor

namespace Go.Proofs.YtjdckepbihcgfaaGreatDoor
open Go.RowKit

theorem sm_zero : Bd.Sm ⟨0, 0, 0⟩ := ⟨⟨by decide, by decide⟩, ⟨by decide, by decide⟩, ⟨by decide, by decide⟩⟩
theorem sm_of {k a b : Int} (hk : smI k) (ha : smI a) (hb : smI b) : Bd.Sm ⟨k, a, b⟩ := ⟨hk, ha, hb⟩
theorem sm_nat {n : Nat} (h : n ≤ 2000) : smI (n : Int) := by unfold smI; omega
theorem sm_lit {n : Int} (h : 0 ≤ n ∧ n ≤ 10) : smI n := by unfold smI; omega
theorem miss_le {cs : List Cl} (k : Nat) (h : numT cs ≤ 2000) : (missT cs).getD k 0 ≤ 2000 := by
  by_cases hk : k < (missT cs).length
  · rw [show (missT cs).getD k 0 = (missT cs)[k] by simp [hk]]
    have hm := List.getElem_mem hk
    generalize (missT cs)[k] = v at hm
    unfold missT missK at hm
    have := List.mem_range.1 (List.mem_filter.1 hm).1
    omega
  · rw [show (missT cs).getD k 0 = 0 by simp [Nat.le_of_not_lt hk]]
    omega
theorem check_sm {cs : List Cl} (h : cs.length ≤ 200) (hn : numT cs ≤ 2000) : (checkT cs).Sm := by
  unfold checkT
  split
  · rename_i i k hk
    have := firstP_some hk
    exact sm_of (sm_lit (by omega)) (sm_nat (by omega)) (sm_nat (by omega))
  · split
    · rename_i i k hk
      have := firstP_some hk
      exact sm_of (sm_lit (by omega)) (sm_nat (by omega)) (sm_nat (by omega))
    · split
      · rename_i k hk
        exact sm_of (sm_lit (by omega)) (sm_nat (miss_le k hn)) (sm_lit (by omega))
      · exact sm_zero
theorem tkR_sm (l : List Ev) : (tkR l).2.1.Sm := by
  unfold tkR
  split
  · rename_i h
    have := numT_bd (tkOk_of h)
    exact check_sm (callsR_len _ _) (by omega)
  · exact sm_zero
end Go.Proofs.YtjdckepbihcgfaaGreatDoor

namespace Go.Proofs.YtjdckepbihcgfaaGreatDoor
open Go.RowKit Go.Lib

theorem evR_er (ts : List Int) (cs : List Cl) (i : Int) (x : Ev) : 0 ≤ (evR ts cs i x).1 ∧ (evR ts cs i x).1 ≤ 7 := by
  unfold evR
  repeat' split
  all_goals (constructor <;> (dsimp only; decide))
theorem callsR_er (ts : List Int) (l : List Ev) : smI (callsR ts l).2.2 := by
  unfold callsR
  split
  · show smI (typesE ts)
    unfold typesE
    split <;> exact sm_lit (by decide)
  · split
    · exact sm_lit (n := 2) (by decide)
    · split
      · have := evR_er ts (stR ts l (failR ts l)) (failR ts l) (l.getD (failR ts l) default)
        show smI (erR ts l (failR ts l))
        unfold erR
        exact ⟨by omega, by omega⟩
      · exact sm_lit (n := 0) (by decide)
theorem tkR_er (l : List Ev) : smI (tkR l).2.2 := by
  unfold tkR
  split
  · exact sm_lit (n := 0) (by decide)
  · exact callsR_er _ _
theorem readR_bd (s : Bs) : smI (readR s).2.2.1 ∧ smI (readR s).2.2.2 ∧ (readR s).1.length ≤ 4 ∧ (readR s).2.1.length ≤ 8192 ∧ ((readR s).2.2.2 = 0 → (callsR (readR s).1 (readR s).2.1).2.2 = 0) := by
  unfold readR
  by_cases h8 : 8192 < s.length
  · rw [if_pos h8]
    exact ⟨sm_lit (n := 0) (by decide), sm_lit (n := 2) (by decide), Nat.zero_le _, Nat.zero_le _, fun h => by cases h⟩
  · rw [if_neg h8]
    have hsl := splitL_len 10 s
    have hel : (evsK (splitL 10 s) ((splitL 10 s).length - 1)).length ≤ 8192 := by rw [evsK_len]; omega
    have htl : (tysK (splitL 10 s)).length ≤ 4 := by
      unfold tysK
      cases ht : thingsR (lnK (splitL 10 s) 0) with
      | none => exact Nat.zero_le _
      | some t => exact (thingsR_ok ht).1
    generalize tysK (splitL 10 s) = K at *
    generalize evsK (splitL 10 s) ((splitL 10 s).length - 1) = E at *
    have hy := callsR_y K E
    have he := callsR_er K E
    cases hb : badLine (splitL 10 s) with
    | some i =>
      have hi : i < (splitL 10 s).length := by
        unfold badLine at hb
        exact List.mem_range.1 (List.mem_of_find?_eq_some hb)
      exact ⟨by show smI (i : Int); unfold smI; omega, sm_lit (n := 7) (by decide), Nat.zero_le _, Nat.zero_le _, fun h => by cases h⟩
    | none =>
      dsimp only
      split
      · exact ⟨sm_lit (n := 0) (by decide), sm_lit (n := 2) (by decide), Nat.zero_le _, Nat.zero_le _, fun h => by cases h⟩
      · split
        · exact ⟨by unfold smI; dsimp only; omega, he, Nat.zero_le _, Nat.zero_le _, fun h => by rename_i h1; exact absurd h h1⟩
        · rename_i h1
          exact ⟨sm_lit (n := 0) (by decide), sm_lit (n := 0) (by decide), htl, hel, fun _ => by simpa using h1⟩
end Go.Proofs.YtjdckepbihcgfaaGreatDoor

namespace Go.Proofs.YtjdckepbihcgfaaGreatDoor
open Go.RowKit Go.Lib
set_option linter.unusedSectionVars false

theorem ln_ne (ws : List Bs) : ([] : Bs) ++ lnB ws ≠ [] := fun e => by
  have := congrArg List.length e
  unfold lnB at this
  simp at this
theorem app_ne {l m : Bs} (h : l ≠ []) : l ++ m ≠ [] := fun e => h (List.append_eq_nil_iff.1 e).1
theorem apart_own {α : Type} {enc : α → List Value} {M et c : Nat} {A : Option Addr} {ls : List α} {C : Ctx} {w : World} {S R : List Ent} (hw : Mem C w (S ++ R)) (he : entOwn enc M et A c ls ∈ R) : ∀ b o, A = some ⟨b, o, none⟩ → b ∉ blks S :=
  apart_of hw he fun b o e => by
    show (Value.slice A ls.length c).ownBlock = some b
    rw [e]; rfl
theorem two_len {a b : Bs} (ha : a.length ≤ 100) (hb : b.length ≤ 100) : (lnB [a, b]).length ≤ 203 := Nat.le_trans (lnB_len (ws := [a, b]) (by
  intro x hx
  rcases List.mem_cons.1 hx with rfl | hx
  · exact ha
  · rw [List.mem_singleton.1 hx]; exact hb)) (by show 2 * 101 + 1 ≤ 203; decide)
theorem witB_len (ts : List Int) (l : List Ev) : (witB ts l).length ≤ 3000 := by
  obtain ⟨hsm, h9⟩ := find_small (ts := ts) (l := l) (F := relAhead)
  unfold witB
  rw [← timePts_word]
  have h1 := lnB_len (ws := (timePts (findS ts l relAhead).isSome ((findS ts l relAhead).getD [])).map Pt.word) (fun x hx => by
    obtain ⟨p, hp, rfl⟩ := List.mem_map.1 hx
    exact Pt.word_len (timePts_ok _ hsm p hp))
  rw [List.length_map, timePts_len] at h1
  have h2 := two_len (a := wPeople) (by decide) (yn_len (findS ts l relPeople).isSome)
  have h3 := two_len (a := wCalm) (by decide) (yn_len (findS ts l relCalm).isSome)
  rw [List.length_append, List.length_append]
  omega
section
variable (s : Bs) (W : World) (hs : s.length ≤ 9223372036854775807) (hT : TxW W)
include hs hT
end
end Go.Proofs.YtjdckepbihcgfaaGreatDoor
