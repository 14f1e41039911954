/- Lemmas for the walks (Own2, S, Fct, Tk3, W, Kinds). No condition. -/
import Derived.Test.YtbhjljnbjomnhaaG07
import Derived.Test.YtbhjljnbjomnhaaG09
import Derived.Test.YtbhjljnbjomnhaaG05
import Derived.Test.YtbhjljnbjomnhaaG04
set_option linter.unusedSimpArgs false
set_option linter.unusedVariables false
set_option linter.unusedSectionVars false
set_option linter.unnecessarySimpa false
namespace Go.Proofs.Ytbhjljnbjomnhaa
open Go.RowKit

theorem flat_div {α : Type} {enc : α → List Value} {M : Nat} (hM : ∀ x, (enc x).length = M) (h0 : 0 < M) : ∀ (l : List α) (j : Nat), (l.flatMap enc)[j]? = (l[j / M]?).bind fun x => (enc x)[j % M]?
  | [], j => by simp
  | x :: l, j => by
    rw [List.flatMap_cons]
    rcases Nat.lt_or_ge j M with h | h
    · rw [List.getElem?_append_left (by rw [hM]; exact h), Nat.div_eq_of_lt h, Nat.mod_eq_of_lt h]
      simp
    · rw [List.getElem?_append_right (by rw [hM]; exact h), hM, flat_div hM h0 l (j - M), Nat.div_eq_sub_div h0 h, ← Nat.mod_eq_sub_mod h]
      simp
theorem Lies.rd {C : Ctx} {S : List Ent} {α : Type} {enc : α → List Value} {M : Nat} {l : List α} {A : Option Addr} {c : Nat} (hR : RdE enc M C.w0 A l) (hF : C.F = []) (hM : ∀ x, (enc x).length = M) (h0 : 0 < M) (hA : A = none → c = 0) : Lies C S (.slice A l.length c) l.length (l.flatMap enc) := by
  cases A with
  | none =>
    have hl : l = [] := by
      cases l with
      | nil => rfl
      | cons x l => obtain ⟨b, o, h, _⟩ := hR.open (by simp); cases h
    subst hl
    exact .inl ⟨rfl, rfl, by rw [hA rfl]; rfl⟩
  | some ad =>
    refine .inr ⟨ad, c, rfl, fun w hw j u hu => ?_⟩
    rw [flat_div hM h0, Option.bind_eq_some_iff] at hu
    obtain ⟨x, hx, hu⟩ := hu
    obtain ⟨b, o, he, hb, hc⟩ := hR (j / M) x hx
    cases he
    have := hc (j % M) u hu
    rw [add_mk]
    refine hw.old hb (by simp [hF]) ?_
    rw [← this]
    congr 2
    have := Nat.div_add_mod j M
    rw [Nat.mul_comm] at this
    omega
theorem any_take_succ {p : Nat → Bool} {l : List Nat} {k : Nat} (hk : k < l.length) : (l.take (k + 1)).any p = ((l.take k).any p || p l[k]) := by
  rw [List.take_succ_eq_append_getElem hk, List.any_append]; simp
theorem contains_take_succ {l : List Nat} {k : Nat} (hk : k < l.length) (i : Nat) : (l.take (k + 1)).contains i = ((l.take k).contains i || decide (l[k] = i)) := by
  rw [List.take_succ_eq_append_getElem hk, List.contains_eq_mem, List.contains_eq_mem, ← Bool.decide_or]
  exact decide_eq_decide.2 (by rw [List.mem_append, List.mem_singleton]; exact ⟨fun h => h.imp id Eq.symm, fun h => h.imp id Eq.symm⟩)
theorem Mem.ownSome {C : Ctx} {S : List Ent} {α : Type} {enc : α → List Value} {M e c : Nat} {A : Option Addr} {ls : List α} {w : World} (hw : Mem C w S) (hm : entOwn enc M e A c ls ∈ S) (hl : 0 < ls.length) : A ≠ Option.none := by
  have ho : Own enc M e w 0 (.slice A ls.length c) ls := (hw.holds _ hm).1
  rcases ho.2 with ⟨_, h0⟩ | ⟨g, cap, cur, hv, _⟩
  · omega
  · simp only [Value.slice.injEq] at hv
    rw [hv.1]; simp
/-- a cell that was there -/
theorem Lds.old {P : Program} {C : Ctx} {S : List Ent} {s b k : Nat} {v : Value} [OneCell P s] (hb : b < C.w0.heap.size) (hF : b ∉ C.F) (hc : C.w0.cell? ⟨b, k, none⟩ = some v) : Lds P C S s ⟨b, k, none⟩ v :=
  Lds.one fun w hw => hw.old hb hF hc
end Go.Proofs.Ytbhjljnbjomnhaa

namespace Go.Proofs.Ytbhjljnbjomnhaa
open Go.RowKit
section
variable {P : Program} {C : Ctx} {E : Slots} {S : List Ent} {t e m g p n c ty : Nat} {x y : Operand} {v : Value}
theorem QS_sliceHigh [hs : SliceOf P t e m] {k : IntKind} {j : Nat} (hx : evo E x = some (.slice (some ⟨g, p, none⟩) n c)) (hy : evo E y = some (.int k (j : Nat))) (hj : j ≤ c) :
    QS P C E S (.slice t x none (some y) none) ty (.slice (some ⟨g, p, none⟩) j c) :=
  QS.of (fun a w ha _ => by
    have he : P.elem t = e := by simp [Program.elem, hs.und]
    have hu : P.underlying t = some (.slice (P.elem t)) := by rw [he]; exact hs.und
    have hr := run_slice_h (P := P) (w := w) t (some ⟨g, p, none⟩) n c hu k (j : Int) (by omega) (by omega)
    rw [he, hs.size w] at hr
    simp only [Result.andThen_ok, Int.toNat_natCast] at hr
    have hv : sliced (some ⟨g, p, none⟩) 0 j c m = .slice (some ⟨g, p, none⟩) j c := by
      unfold sliced
      split <;> simp [add_mk]
    rw [hv] at hr
    simp [execOp, ha.evo hx, ha.evo hy, run_sliceAt_slice (P := P) (w := w) t _ _ _ _ hu, hr])
end
end Go.Proofs.Ytbhjljnbjomnhaa

namespace Go.Proofs.Ytbhjljnbjomnhaa
open Go.RowKit

theorem Own.facts {α : Type} {enc : α → List Value} {M e : Nat} {w : World} {B n c : Nat} {A : Option Addr} {ls : List α} (h : Own enc M e w B (.slice A n c) ls) : ls.length ≤ c ∧ (A = none → c = 0) := by
  rcases h.2 with ⟨hv, h0⟩ | ⟨g, cap, cur, hv, _, _, hn, _⟩
  · simp only [Value.slice.injEq] at hv
    obtain ⟨rfl, -, rfl⟩ := hv
    exact ⟨by omega, fun _ => rfl⟩
  · simp only [Value.slice.injEq] at hv
    obtain ⟨rfl, -, rfl⟩ := hv
    exact ⟨hn, fun h => by cases h⟩
theorem T_fact {P : Program} {C : Ctx} {Q : Exit → Act → World → Prop} {E : Slots} {S : List Ent} {code : Code} {p : Prop} (hS : ∀ w, Mem C w S → p) (h : p → T P C code Q E S) : T P C code Q E S :=
  ⟨fun a w ha hw => (h (hS w hw)).run a w ha hw⟩
theorem Mem.ownFacts {α : Type} {enc : α → List Value} {M et c : Nat} {A : Option Addr} {ls : List α} {C : Ctx} {S : List Ent} {w : World} (hw : Mem C w S) (hm : entOwn enc M et A c ls ∈ S) : ls.length ≤ c ∧ (A = Option.none → c = 0) :=
  Own.facts (show Own enc M et w 0 (.slice A ls.length c) ls from (hw.holds _ hm).1)
theorem Mem.widen {n : Nat} {F F' : List Nat} {w w' : World} {S : List Ent} (h : Mem ⟨n, F, w⟩ w' S) (hF : ∀ g ∈ F, g ∈ F') : Mem ⟨n, F', w⟩ w' S :=
  ⟨⟨h.keeps.os, h.keeps.tape, h.keeps.output, h.keeps.size, fun k hk hn => h.keeps.block k hk fun hm => hn (hF k hm)⟩, fun e he => ⟨(h.holds e he).1, fun g hg => ⟨((h.holds e he).2 g hg).1, ((h.holds e he).2 g hg).2.imp (hF g) id⟩⟩, h.apart⟩
theorem Mem.ofOwn {α : Type} {enc : α → List Value} {M et : Nat} {ls : List α} {A : Option Addr} {c : Nat} {w w' : World} (hb : Below w.heap.size w w') (ho : Own enc M et w' w.heap.size (.slice A ls.length c) ls) : Mem ⟨0, [], w⟩ w' [entOwn enc M et A c ls] :=
  (Mem.nil ⟨0, [], w⟩).fresh (e := entOwn enc M et A c ls) hb (fun g hg => World.ownsRow.lt ho g hg) ho.base
theorem Mem.theBlk {C : Ctx} {S : List Ent} {w : World} {g t : Nat} {cs : Array Value} (hw : Mem C w S) (hm : entBlk g t cs ∈ S) : Blk w g t cs := (hw.holds _ hm).1
theorem Mem.theOwn {α : Type} {enc : α → List Value} {M et c : Nat} {A : Option Addr} {ls : List α} {C : Ctx} {S : List Ent} {w : World} (hw : Mem C w S) (hm : entOwn enc M et A c ls ∈ S) : Own enc M et w 0 (.slice A ls.length c) ls := (hw.holds _ hm).1
end Go.Proofs.Ytbhjljnbjomnhaa

namespace Go.Proofs.Ytbhjljnbjomnhaa
open Go.RowKit

section
variable (gl : Nat) (A P M : Option Addr) (ca cp cm : Nat) (cs : List Cl) (p m : List Nat) (w : World) (hL : Blk w gl 126 #[.slice A cs.length ca, .slice P p.length cp, .slice M m.length cm]) (hA : RdE Cl.enc 7 w A cs) (h200 : cs.length ≤ 200)
include hL hA h200
set_option maxRecDepth 100000 in
set_option maxHeartbeats 4000000 in
theorem can1_any (x : Cl) (i n b1 b2 b3 : Nat) (hi : i < cs.length) (h1 : b1 < w.heap.size) (hc1 : w.cell? ⟨b1, 0, none⟩ = some (.pointer (some ⟨gl, 0, none⟩))) (h2 : b2 < w.heap.size) (hc2 : w.cell? ⟨b2, 0, none⟩ = some (.int .i64 (i : Nat))) (h3 : b3 < w.heap.size) (hc3 : w.cell? ⟨b3, 0, none⟩ = some (.int .i64 (n : Nat))) :
    Calls Try.prog 152 #[.agg (Cl.enc x).toArray, .pointer (some ⟨b1, 0, none⟩), .pointer (some ⟨b2, 0, none⟩), .pointer (some ⟨b3, 0, none⟩)] w fun e w' => e = .returned (.bool (lateB cs i n x)) ∧ Below w.heap.size w w' := by
  have hl := hL.lt
  have hl0 : w.cell? ⟨gl, 0, none⟩ = some (.slice A cs.length ca) := hL.cell 0
  obtain ⟨bC, oC, rfl, _⟩ := RdE.open hA (by omega)
  have hck := clK_eq hi
  have hlate : lateB cs i n x = (decide (x.to ≠ -1) && (decide (x.to < cs[i].from_) && decide ((n : Int) ≤ x.res))) := by unfold lateB; rw [hck]
  rw [hlate]
  clear hlate hck
  refine calls_T (S := []) [] Try.func152 rfl Try.ntmps152 (by simp) (Mem.nil _) ?_
  repeat' (first | ((first | with_reducible (first | apply TL_q | apply TD_q0 | apply TD_q1 | apply TD_q2 | apply TD_q3) | ((with_reducible (first | apply TD_q0y | apply TD_q1y)); exact rfl; exact rfl; (with_reducible exact rfl))); (first | ((with_reducible apply QS_load); exact rfl; (apply Lds.old; assumption; simp; assumption)) | ((with_reducible apply QS_sliceHigh); exact rfl; exact rfl; omega) | exact QS.auto); exact rfl) | (refine GG ?_) | (refine GE ?_; (first | (rintro _ _ ⟨rfl, rfl⟩) | (rintro _ _ ⟨g, rfl, rfl⟩) | (rintro _ _ ⟨A', c', rfl, rfl⟩)); (try refine ⟨SUB, ?_⟩)) | ((refine GO2 ?_ ?_) <;> intro h <;> (try (repeat (first | with_reducible (replace h := of_decide_eq_true h) | with_reducible (replace h := of_decide_eq_false h) | with_reducible (replace h := bnt h) | with_reducible (replace h := bnf h) | with_reducible (replace h := Int.not_lt.mp h) | with_reducible (replace h := Int.not_le.mp h) | with_reducible (replace h := band_dec h) | with_reducible (replace h := band_decF h) | with_reducible (replace h := bor_dec h) | with_reducible (replace h := bor_decF h)))) <;> (try (exfalso; first | contradiction | omega))) | (refine GOF ?_ ?_) | ((with_reducible apply T_draw (id := 1) 1000 (OT.seq [(0, 0), (1, 1), (0, 2), (0, 3), (0, 4), (1, 5), (1, 6), (0, 7), (0, 8), (1, 9), (1, 10), (0, 11), (0, 12), (1, 13), (0, 14), (0, 15), (0, 16), (0, 17), (1, 18), (1, 19), (0, 20), (0, 21), (0, 22)] .nil)); kernel_rfl; exact rfl; kernel_rfl; (repeat (first | with_reducible exact Blind.body | with_reducible apply Blind.seq | with_reducible apply Blind.block))) | fail)
  all_goals
    refine At_ret Try.results152 rfl (fun w' hw => ?_)
    refine ⟨?_, hw.below0 rfl⟩
    congr 2
    first | (simp [*, resVal]; done) | (simp [*, resVal]; omega)
set_option maxRecDepth 100000 in
set_option maxHeartbeats 4000000 in
theorem can_any (i n : Nat) (hi : i < cs.length) : Calls Try.prog 112 #[.pointer (some ⟨gl, 0, none⟩), .int .i64 (i : Nat), .int .i64 (n : Nat)] w fun e w' => e = .returned (.bool (canT cs i n)) ∧ Below w.heap.size w w' := by
  have hl := hL.lt
  have hl0 : w.cell? ⟨gl, 0, none⟩ = some (.slice A cs.length ca) := hL.cell 0
  have hcl : ∀ (g3 g4 g5 : Nat) (S : List Ent) (w1 : World), Mem ⟨14, [], w⟩ w1 S → entBlk g3 121 #[.pointer (some ⟨gl, 0, none⟩)] ∈ S → entBlk g4 3 #[.int .i64 (i : Nat)] ∈ S → entBlk g5 3 #[.int .i64 (n : Nat)] ∈ S →
      Calls Try.prog 151 #[.slice A cs.length ca, .func (.func 152) #[] [.pointer (some ⟨g3, 0, none⟩), .pointer (some ⟨g4, 0, none⟩), .pointer (some ⟨g5, 0, none⟩)].toArray] w1 fun e w' => e = .returned (.bool (cs.any (lateB cs i n))) ∧ Below w1.heap.size w1 w' := fun g3 g4 g5 S w1 hw m3 m4 m5 => by
    have b3 : Blk w1 g3 121 #[.pointer (some ⟨gl, 0, none⟩)] := (hw.holds _ m3).1
    have b4 : Blk w1 g4 3 #[.int .i64 (i : Nat)] := (hw.holds _ m4).1
    have b5 : Blk w1 g5 3 #[.int .i64 (n : Nat)] := (hw.holds _ m5).1
    refine contCall_any 152 (lateB cs i n) _ A ca cs w1 (hw.rd rfl hA) (by omega) (fun s _ w2 h2 => ?_)
    exact can1_any gl A P M ca cp cm cs p m w2 ((hL.carry (hw.below0 rfl)).carry h2) (RdE.below (hw.rd rfl hA) h2) h200 s i n g3 g4 g5 hi (b3.carry h2).lt ((b3.carry h2).cell 0) (b4.carry h2).lt ((b4.carry h2).cell 0) (b5.carry h2).lt ((b5.carry h2).cell 0)
  refine calls_T (S := []) [] Try.func112 rfl Try.ntmps112 (by simp) (Mem.nil _) ?_
  repeat' (first | ((first | with_reducible (first | apply TL_q | apply TD_q0 | apply TD_q1 | apply TD_q2 | apply TD_q3) | ((with_reducible (first | apply TD_q0y | apply TD_q1y)); exact rfl; exact rfl; (with_reducible exact rfl))); (first | ((with_reducible apply QS_load); exact rfl; (apply Lds.old; assumption; simp; assumption)) | ((with_reducible apply QS_sliceHigh); exact rfl; exact rfl; omega) | exact QS.auto); exact rfl) | (refine GO ?_) | (refine GOE ?_; (first | (rintro _ _ ⟨rfl, rfl⟩) | (rintro _ _ ⟨g, rfl, rfl⟩) | (rintro _ _ ⟨A', c', rfl, rfl⟩))) | ((refine GO2 ?_ ?_) <;> intro h <;> (try (repeat (first | with_reducible (replace h := of_decide_eq_true h) | with_reducible (replace h := of_decide_eq_false h) | with_reducible (replace h := bnt h) | with_reducible (replace h := bnf h) | with_reducible (replace h := Int.not_lt.mp h) | with_reducible (replace h := Int.not_le.mp h) | with_reducible (replace h := band_dec h) | with_reducible (replace h := band_decF h) | with_reducible (replace h := bor_dec h) | with_reducible (replace h := bor_decF h)))) <;> (try (exfalso; first | contradiction | omega))) | ((with_reducible (first | apply TD_e2z | apply TD_e3z | apply TL_e | apply TD_e2 | apply TD_e3)); ((with_reducible apply ES_callV (f := 151) (v := .bool (cs.any (lateB cs i n)))); exact rfl; (intro w1 hw; exact hcl _ _ _ _ w1 hw (by first | ((repeat (first | with_reducible exact List.mem_cons_self | with_reducible apply List.mem_cons_of_mem)); done) | (repeat (first | exact List.Mem.head _ | apply List.Mem.tail))) (by first | ((repeat (first | with_reducible exact List.mem_cons_self | with_reducible apply List.mem_cons_of_mem)); done) | (repeat (first | exact List.Mem.head _ | apply List.Mem.tail))) (by first | ((repeat (first | with_reducible exact List.mem_cons_self | with_reducible apply List.mem_cons_of_mem)); done) | (repeat (first | exact List.Mem.head _ | apply List.Mem.tail)))); exact rfl); (first | exact rfl | exact ⟨rfl, rfl, rfl⟩); (rintro _ _ ⟨rfl, rfl⟩); (try refine ⟨SUB, ?_⟩)) | fail)
  (refine At_ret Try.results112 rfl (fun w' hw => ?_))
  exact ⟨rfl, hw.below0 rfl⟩
end
theorem twB_eq {cs : List Cl} {i k : Nat} (hi : i < cs.length) (hk : k < cs.length) : twB cs i k = (decide (cs[i].to ≠ -1) && (decide (cs[k].to ≠ -1) && decide (cs[i].res = cs[k].res))) := by unfold twB; rw [clK_eq hi, clK_eq hk]
theorem ordB_eq {cs : List Cl} {i k : Nat} (hi : i < cs.length) (hk : k < cs.length) : ordB cs i k = (decide (cs[i].to ≠ -1) && (decide (cs[k].to ≠ -1) && (decide (cs[i].to < cs[k].from_) && decide (cs[k].res < cs[i].res)))) := by unfold ordB; rw [clK_eq hi, clK_eq hk]
section
variable (gl : Nat) (A P M : Option Addr) (ca cp cm : Nat) (cs : List Cl) (p m : List Nat) (w : World) (hL : Blk w gl 126 #[.slice A cs.length ca, .slice P p.length cp, .slice M m.length cm]) (hA : RdE Cl.enc 7 w A cs) (h200 : cs.length ≤ 200)
variable (hP : RdE natEnc 1 w P p) (hM : RdE natEnc 1 w M m) (hp : p = pendT cs) (hm : m = missT cs) (hml : m.length ≤ 2000) (hca : cs.length ≤ ca)
include hL hA h200 hP hM hp hm hml hca
set_option maxRecDepth 100000 in
set_option maxHeartbeats 8000000 in
theorem tkCheck_any : Calls Try.prog 59 #[.pointer (some ⟨gl, 0, none⟩)] w fun e w' => e = .returned (.agg (Bd.enc (checkT cs)).toArray) ∧ Below w.heap.size w w' := by
  have hl := hL.lt
  have hl0 : w.cell? ⟨gl, 0, none⟩ = some (.slice A cs.length ca) := hL.cell 0
  have hl1 : w.cell? ⟨gl, 1, none⟩ = some (.slice P p.length cp) := hL.cell 1
  have hl2 : w.cell? ⟨gl, 2, none⟩ = some (.slice M m.length cm) := hL.cell 2
  have hcan := fun i n w' h1 h2 hi => can_any gl A P M ca cp cm cs p m w' h1 h2 h200 i n hi
  have hplt : ∀ k (hk : k < p.length), p[k] < cs.length := fun k hk => (pendK_lt (cs := cs) (k := cs.length) (by rw [show pendK cs cs.length = p from hp.symm]; exact List.getElem_mem hk)).1
  have hpl : p.length ≤ cs.length := by rw [hp]; exact pendK_len cs cs.length
  have hgap : ∀ k (hk : k < m.length), gapB cs k = (decide (p.length ≤ k) || !canT cs (p.getD k 0) (m.getD k 0)) := fun k hk => by unfold gapB; rw [hp, hm]
  have hchk : checkT cs = match firstP cs.length (fun i => i) (twB cs) with
    | some (i, k) => ⟨2, i, k⟩
    | none => match firstP cs.length (fun _ => cs.length) (ordB cs) with
      | some (i, k) => ⟨6, i, k⟩
      | none => match firstN m.length (gapB cs) with
        | some k => ⟨8, (m.getD k 0 : Nat), 0⟩
        | none => ⟨0, 0, 0⟩ := by rw [hm]; rfl
  generalize checkT cs = V at *
  clear hp hm
  refine calls_T (S := []) [] Try.func59 rfl Try.ntmps59 (by simp) (Mem.nil _) ?_
  repeat' (first | ((first | with_reducible (first | apply TL_q | apply TD_q0 | apply TD_q1 | apply TD_q2 | apply TD_q3) | ((with_reducible (first | apply TD_q0y | apply TD_q1y)); exact rfl; exact rfl; (with_reducible exact rfl))); (first | ((with_reducible apply QS_load); exact rfl; (apply Lds.old; assumption; simp; assumption)) | ((with_reducible apply QS_sliceHigh); exact rfl; exact rfl; omega) | exact QS.auto); exact rfl) | (refine GO ?_) | (refine GOE ?_; (first | (rintro _ _ ⟨rfl, rfl⟩) | (rintro _ _ ⟨g, rfl, rfl⟩) | (rintro _ _ ⟨A', c', rfl, rfl⟩))) | ((refine GO2 ?_ ?_) <;> intro h <;> (try (repeat (first | with_reducible (replace h := of_decide_eq_true h) | with_reducible (replace h := of_decide_eq_false h) | with_reducible (replace h := bnt h) | with_reducible (replace h := bnf h) | with_reducible (replace h := Int.not_lt.mp h) | with_reducible (replace h := Int.not_le.mp h) | with_reducible (replace h := band_dec h) | with_reducible (replace h := band_decF h) | with_reducible (replace h := bor_dec h) | with_reducible (replace h := bor_decF h)))) <;> (try (exfalso; first | contradiction | omega))) | fail)
  obtain ⟨gb, rfl⟩ : ∃ x, x = g := ⟨_, rfl⟩
  refine T_loop (X := Nat) (fun i => [(18, .int .i64 (i : Nat)), (17, .int .i64 cs.length), (16, .slice A cs.length ca), (2, .pointer (some ⟨gb, 0, none⟩)), (0, .pointer (some ⟨gl, 0, none⟩))]) (fun _ => [entBlk gb 48 #[.int .i64 0, .int .i64 0, .int .i64 0]]) (fun i => i ≤ cs.length ∧ ∀ j, j < i → ∀ q, q < j → twB cs j q = false) (fun i => cs.length - i) 0 ⟨by omega, fun j hj => by omega⟩ (by (repeat (first | exact SubE.nil _ | refine SubE.cons rfl ?_))) (by exact SUBS) ?_
  rintro i ⟨hi, hno⟩
  by_cases hil : i < cs.length
  · obtain ⟨bC, oC, rfl, _⟩ := RdE.open hA (by omega)
    repeat' (first | ((first | with_reducible (first | apply TL_q | apply TD_q0 | apply TD_q1 | apply TD_q2 | apply TD_q3) | ((with_reducible (first | apply TD_q0y | apply TD_q1y)); exact rfl; exact rfl; (with_reducible exact rfl))); (first | ((with_reducible apply QS_load); exact rfl; (apply Lds.old; assumption; simp; assumption)) | ((with_reducible apply QS_sliceHigh); exact rfl; exact rfl; omega) | exact QS.auto); exact rfl) | (refine GO ?_) | (refine GOE ?_; (first | (rintro _ _ ⟨rfl, rfl⟩) | (rintro _ _ ⟨g, rfl, rfl⟩) | (rintro _ _ ⟨A', c', rfl, rfl⟩))) | ((refine GO2 ?_ ?_) <;> intro h <;> (try (repeat (first | with_reducible (replace h := of_decide_eq_true h) | with_reducible (replace h := of_decide_eq_false h) | with_reducible (replace h := bnt h) | with_reducible (replace h := bnf h) | with_reducible (replace h := Int.not_lt.mp h) | with_reducible (replace h := Int.not_le.mp h) | with_reducible (replace h := band_dec h) | with_reducible (replace h := band_decF h) | with_reducible (replace h := bor_dec h) | with_reducible (replace h := bor_decF h)))) <;> (try (exfalso; first | contradiction | omega))) | fail)
    obtain ⟨g4, rfl⟩ : ∃ x, x = g := ⟨_, rfl⟩
    refine T_loop (X := Nat) (fun k => [(30, .int .i64 (k : Nat)), (29, .int .i64 (i : Nat)), (28, .slice (some ⟨bC, oC, none⟩) i ca), (4, .pointer (some ⟨g4, 0, none⟩)), (3, .int .i64 (i : Nat)), (18, .int .i64 (i : Nat)), (17, .int .i64 cs.length), (16, .slice (some ⟨bC, oC, none⟩) cs.length ca), (2, .pointer (some ⟨gb, 0, none⟩)), (0, .pointer (some ⟨gl, 0, none⟩))]) (fun _ => [entBlk g4 43 (Cl.enc cs[i]).toArray, entBlk gb 48 #[.int .i64 0, .int .i64 0, .int .i64 0]])
      (fun k => k ≤ i ∧ ∀ q, q < k → twB cs i q = false) (fun k => i - k) 0 ⟨by omega, fun q hq => by omega⟩ (by (repeat (first | exact SubE.nil _ | refine SubE.cons rfl ?_))) (by exact SUBS) ?_
    rintro k ⟨hk, hno2⟩
    by_cases hki : k < i
    · have htw := twB_eq hil (show k < cs.length by omega)
      repeat' (first | ((first | with_reducible (first | apply TL_q | apply TD_q0 | apply TD_q1 | apply TD_q2 | apply TD_q3) | ((with_reducible (first | apply TD_q0y | apply TD_q1y)); exact rfl; exact rfl; (with_reducible exact rfl))); (first | ((with_reducible apply QS_load); exact rfl; (apply Lds.old; assumption; simp; assumption)) | ((with_reducible apply QS_sliceHigh); exact rfl; exact rfl; omega) | exact QS.auto); exact rfl) | (refine GO ?_) | (refine GOE ?_; (first | (rintro _ _ ⟨rfl, rfl⟩) | (rintro _ _ ⟨g, rfl, rfl⟩) | (rintro _ _ ⟨A', c', rfl, rfl⟩))) | ((refine GO2 ?_ ?_) <;> intro h <;> (try (repeat (first | with_reducible (replace h := of_decide_eq_true h) | with_reducible (replace h := of_decide_eq_false h) | with_reducible (replace h := bnt h) | with_reducible (replace h := bnf h) | with_reducible (replace h := Int.not_lt.mp h) | with_reducible (replace h := Int.not_le.mp h) | with_reducible (replace h := band_dec h) | with_reducible (replace h := band_decF h) | with_reducible (replace h := bor_dec h) | with_reducible (replace h := bor_decF h)))) <;> (try (exfalso; first | contradiction | omega))) | fail)
      all_goals
        first
          | (((with_reducible apply At_retM Try.results59); (repeat (first | exact ResIs.nil | (apply ResIs.tmp; exact rfl) | (apply ResIs.cell; exact rfl; exact Lds.auto))); intro w' hw); exact ⟨by rw [hchk, firstP_at hil hki hno hno2 (by rw [htw]; simp [*])]; rfl, hw.below0 rfl⟩)
          | exact At_rounds (k + 1) ⟨hki, fun q hq => (Nat.lt_succ_iff_lt_or_eq.1 hq).elim (fun e => hno2 q e) (fun e => by subst e; rw [htw]; first | (simp [*]; done) | (simp [*]; omega))⟩ (by omega) (by (repeat (first | exact SubE.nil _ | refine SubE.cons rfl ?_))) (by exact SUBS)
    · obtain rfl : k = i := by omega
      repeat' (first | ((first | with_reducible (first | apply TL_q | apply TD_q0 | apply TD_q1 | apply TD_q2 | apply TD_q3) | ((with_reducible (first | apply TD_q0y | apply TD_q1y)); exact rfl; exact rfl; (with_reducible exact rfl))); (first | ((with_reducible apply QS_load); exact rfl; (apply Lds.old; assumption; simp; assumption)) | ((with_reducible apply QS_sliceHigh); exact rfl; exact rfl; omega) | exact QS.auto); exact rfl) | (refine GO ?_) | (refine GOE ?_; (first | (rintro _ _ ⟨rfl, rfl⟩) | (rintro _ _ ⟨g, rfl, rfl⟩) | (rintro _ _ ⟨A', c', rfl, rfl⟩))) | ((refine GO2 ?_ ?_) <;> intro h <;> (try (repeat (first | with_reducible (replace h := of_decide_eq_true h) | with_reducible (replace h := of_decide_eq_false h) | with_reducible (replace h := bnt h) | with_reducible (replace h := bnf h) | with_reducible (replace h := Int.not_lt.mp h) | with_reducible (replace h := Int.not_le.mp h) | with_reducible (replace h := band_dec h) | with_reducible (replace h := band_decF h) | with_reducible (replace h := bor_dec h) | with_reducible (replace h := bor_decF h)))) <;> (try (exfalso; first | contradiction | omega))) | fail)
      exact At_rounds (k + 1) ⟨hil, fun j hj => (Nat.lt_succ_iff_lt_or_eq.1 hj).elim (fun e => hno j e) (fun e => by subst e; exact hno2)⟩ (by omega) (by (repeat (first | exact SubE.nil _ | refine SubE.cons rfl ?_))) (by exact SUBS)
  · obtain rfl : i = cs.length := by omega
    rw [firstP_none hno] at hchk
    dsimp only at hchk
    clear hno
    repeat' (first | ((first | with_reducible (first | apply TL_q | apply TD_q0 | apply TD_q1 | apply TD_q2 | apply TD_q3) | ((with_reducible (first | apply TD_q0y | apply TD_q1y)); exact rfl; exact rfl; (with_reducible exact rfl))); (first | ((with_reducible apply QS_load); exact rfl; (apply Lds.old; assumption; simp; assumption)) | ((with_reducible apply QS_sliceHigh); exact rfl; exact rfl; omega) | exact QS.auto); exact rfl) | (refine GO ?_) | (refine GOE ?_; (first | (rintro _ _ ⟨rfl, rfl⟩) | (rintro _ _ ⟨g, rfl, rfl⟩) | (rintro _ _ ⟨A', c', rfl, rfl⟩))) | ((refine GO2 ?_ ?_) <;> intro h <;> (try (repeat (first | with_reducible (replace h := of_decide_eq_true h) | with_reducible (replace h := of_decide_eq_false h) | with_reducible (replace h := bnt h) | with_reducible (replace h := bnf h) | with_reducible (replace h := Int.not_lt.mp h) | with_reducible (replace h := Int.not_le.mp h) | with_reducible (replace h := band_dec h) | with_reducible (replace h := band_decF h) | with_reducible (replace h := bor_dec h) | with_reducible (replace h := bor_decF h)))) <;> (try (exfalso; first | contradiction | omega))) | fail)
    refine T_loop (X := Nat) (fun i => [(60, .int .i64 (i : Nat)), (59, .int .i64 cs.length), (58, .slice A cs.length ca), (2, .pointer (some ⟨gb, 0, none⟩)), (0, .pointer (some ⟨gl, 0, none⟩))]) (fun _ => [entBlk gb 48 #[.int .i64 0, .int .i64 0, .int .i64 0]]) (fun i => i ≤ cs.length ∧ ∀ j, j < i → ∀ q, q < cs.length → ordB cs j q = false) (fun i => cs.length - i) 0 ⟨by omega, fun j hj => by omega⟩ (by (repeat (first | exact SubE.nil _ | refine SubE.cons rfl ?_))) (by exact SUBS) ?_
    rintro i ⟨hi, hno⟩
    by_cases hil : i < cs.length
    · obtain ⟨bC, oC, rfl, _⟩ := RdE.open hA (by omega)
      repeat' (first | ((first | with_reducible (first | apply TL_q | apply TD_q0 | apply TD_q1 | apply TD_q2 | apply TD_q3) | ((with_reducible (first | apply TD_q0y | apply TD_q1y)); exact rfl; exact rfl; (with_reducible exact rfl))); (first | ((with_reducible apply QS_load); exact rfl; (apply Lds.old; assumption; simp; assumption)) | ((with_reducible apply QS_sliceHigh); exact rfl; exact rfl; omega) | exact QS.auto); exact rfl) | (refine GO ?_) | (refine GOE ?_; (first | (rintro _ _ ⟨rfl, rfl⟩) | (rintro _ _ ⟨g, rfl, rfl⟩) | (rintro _ _ ⟨A', c', rfl, rfl⟩))) | ((refine GO2 ?_ ?_) <;> intro h <;> (try (repeat (first | with_reducible (replace h := of_decide_eq_true h) | with_reducible (replace h := of_decide_eq_false h) | with_reducible (replace h := bnt h) | with_reducible (replace h := bnf h) | with_reducible (replace h := Int.not_lt.mp h) | with_reducible (replace h := Int.not_le.mp h) | with_reducible (replace h := band_dec h) | with_reducible (replace h := band_decF h) | with_reducible (replace h := bor_dec h) | with_reducible (replace h := bor_decF h)))) <;> (try (exfalso; first | contradiction | omega))) | fail)
      obtain ⟨g8, rfl⟩ : ∃ x, x = g := ⟨_, rfl⟩
      refine T_loop (X := Nat) (fun k => [(70, .int .i64 (k : Nat)), (69, .int .i64 cs.length), (68, .slice (some ⟨bC, oC, none⟩) cs.length ca), (8, .pointer (some ⟨g8, 0, none⟩)), (7, .int .i64 (i : Nat)), (60, .int .i64 (i : Nat)), (59, .int .i64 cs.length), (58, .slice (some ⟨bC, oC, none⟩) cs.length ca), (2, .pointer (some ⟨gb, 0, none⟩)), (0, .pointer (some ⟨gl, 0, none⟩))]) (fun _ => [entBlk g8 43 (Cl.enc cs[i]).toArray, entBlk gb 48 #[.int .i64 0, .int .i64 0, .int .i64 0]])
        (fun k => k ≤ cs.length ∧ ∀ q, q < k → ordB cs i q = false) (fun k => cs.length - k) 0 ⟨by omega, fun q hq => by omega⟩ (by (repeat (first | exact SubE.nil _ | refine SubE.cons rfl ?_))) (by exact SUBS) ?_
      rintro k ⟨hk, hno2⟩
      by_cases hki : k < cs.length
      · have htw := ordB_eq hil hki
        repeat' (first | ((first | with_reducible (first | apply TL_q | apply TD_q0 | apply TD_q1 | apply TD_q2 | apply TD_q3) | ((with_reducible (first | apply TD_q0y | apply TD_q1y)); exact rfl; exact rfl; (with_reducible exact rfl))); (first | ((with_reducible apply QS_load); exact rfl; (apply Lds.old; assumption; simp; assumption)) | ((with_reducible apply QS_sliceHigh); exact rfl; exact rfl; omega) | exact QS.auto); exact rfl) | (refine GO ?_) | (refine GOE ?_; (first | (rintro _ _ ⟨rfl, rfl⟩) | (rintro _ _ ⟨g, rfl, rfl⟩) | (rintro _ _ ⟨A', c', rfl, rfl⟩))) | ((refine GO2 ?_ ?_) <;> intro h <;> (try (repeat (first | with_reducible (replace h := of_decide_eq_true h) | with_reducible (replace h := of_decide_eq_false h) | with_reducible (replace h := bnt h) | with_reducible (replace h := bnf h) | with_reducible (replace h := Int.not_lt.mp h) | with_reducible (replace h := Int.not_le.mp h) | with_reducible (replace h := band_dec h) | with_reducible (replace h := band_decF h) | with_reducible (replace h := bor_dec h) | with_reducible (replace h := bor_decF h)))) <;> (try (exfalso; first | contradiction | omega))) | fail)
        all_goals
          first
            | (((with_reducible apply At_retM Try.results59); (repeat (first | exact ResIs.nil | (apply ResIs.tmp; exact rfl) | (apply ResIs.cell; exact rfl; exact Lds.auto))); intro w' hw); exact ⟨by rw [hchk, firstP_at hil hki hno hno2 (by rw [htw]; simp [*])]; rfl, hw.below0 rfl⟩)
            | exact At_rounds (k + 1) ⟨hki, fun q hq => (Nat.lt_succ_iff_lt_or_eq.1 hq).elim (fun e => hno2 q e) (fun e => by subst e; rw [htw]; first | (simp [*]; done) | (simp [*]; omega))⟩ (by omega) (by (repeat (first | exact SubE.nil _ | refine SubE.cons rfl ?_))) (by exact SUBS)
      · obtain rfl : k = cs.length := by omega
        repeat' (first | ((first | with_reducible (first | apply TL_q | apply TD_q0 | apply TD_q1 | apply TD_q2 | apply TD_q3) | ((with_reducible (first | apply TD_q0y | apply TD_q1y)); exact rfl; exact rfl; (with_reducible exact rfl))); (first | ((with_reducible apply QS_load); exact rfl; (apply Lds.old; assumption; simp; assumption)) | ((with_reducible apply QS_sliceHigh); exact rfl; exact rfl; omega) | exact QS.auto); exact rfl) | (refine GO ?_) | (refine GOE ?_; (first | (rintro _ _ ⟨rfl, rfl⟩) | (rintro _ _ ⟨g, rfl, rfl⟩) | (rintro _ _ ⟨A', c', rfl, rfl⟩))) | ((refine GO2 ?_ ?_) <;> intro h <;> (try (repeat (first | with_reducible (replace h := of_decide_eq_true h) | with_reducible (replace h := of_decide_eq_false h) | with_reducible (replace h := bnt h) | with_reducible (replace h := bnf h) | with_reducible (replace h := Int.not_lt.mp h) | with_reducible (replace h := Int.not_le.mp h) | with_reducible (replace h := band_dec h) | with_reducible (replace h := band_decF h) | with_reducible (replace h := bor_dec h) | with_reducible (replace h := bor_decF h)))) <;> (try (exfalso; first | contradiction | omega))) | fail)
        exact At_rounds (i + 1) ⟨hil, fun j hj => (Nat.lt_succ_iff_lt_or_eq.1 hj).elim (fun e => hno j e) (fun e => by subst e; exact hno2)⟩ (by omega) (by (repeat (first | exact SubE.nil _ | refine SubE.cons rfl ?_))) (by exact SUBS)
    · obtain rfl : i = cs.length := by omega
      rw [firstP_none hno] at hchk
      dsimp only at hchk
      clear hno
      repeat' (first | ((first | with_reducible (first | apply TL_q | apply TD_q0 | apply TD_q1 | apply TD_q2 | apply TD_q3) | ((with_reducible (first | apply TD_q0y | apply TD_q1y)); exact rfl; exact rfl; (with_reducible exact rfl))); (first | ((with_reducible apply QS_load); exact rfl; (apply Lds.old; assumption; simp; assumption)) | ((with_reducible apply QS_sliceHigh); exact rfl; exact rfl; omega) | exact QS.auto); exact rfl) | (refine GO ?_) | (refine GOE ?_; (first | (rintro _ _ ⟨rfl, rfl⟩) | (rintro _ _ ⟨g, rfl, rfl⟩) | (rintro _ _ ⟨A', c', rfl, rfl⟩))) | ((refine GO2 ?_ ?_) <;> intro h <;> (try (repeat (first | with_reducible (replace h := of_decide_eq_true h) | with_reducible (replace h := of_decide_eq_false h) | with_reducible (replace h := bnt h) | with_reducible (replace h := bnf h) | with_reducible (replace h := Int.not_lt.mp h) | with_reducible (replace h := Int.not_le.mp h) | with_reducible (replace h := band_dec h) | with_reducible (replace h := band_decF h) | with_reducible (replace h := bor_dec h) | with_reducible (replace h := bor_decF h)))) <;> (try (exfalso; first | contradiction | omega))) | fail)
      refine T_loop (X := Nat) (fun k => [(107, .int .i64 (k : Nat)), (106, .int .i64 m.length), (105, .slice M m.length cm), (2, .pointer (some ⟨gb, 0, none⟩)), (0, .pointer (some ⟨gl, 0, none⟩))]) (fun _ => [entBlk gb 48 #[.int .i64 0, .int .i64 0, .int .i64 0]]) (fun k => k ≤ m.length ∧ ∀ j, j < k → gapB cs j = false) (fun k => m.length - k) 0 ⟨by omega, fun j hj => by omega⟩ (by (repeat (first | exact SubE.nil _ | refine SubE.cons rfl ?_))) (by exact SUBS) ?_
      rintro k ⟨hk, hno⟩
      by_cases hkm : k < m.length
      · obtain ⟨bM, oM, rfl, _⟩ := RdE.open hM (by omega)
        have hgk := hgap k hkm
        have hmk : m.getD k 0 = m[k] := by simp [hkm]
        by_cases hkp : k < p.length
        · obtain ⟨bP, oP, rfl, _⟩ := RdE.open hP (by omega)
          have hpk : p.getD k 0 = p[k] := by simp [hkp]
          have hc := fun w' h1 h2 => hcan p[k] m[k] w' h1 h2 (hplt k hkp)
          rw [hpk, hmk, decide_eq_false (by omega), Bool.false_or] at hgk
          repeat' (first | ((first | with_reducible (first | apply TL_q | apply TD_q0 | apply TD_q1 | apply TD_q2 | apply TD_q3) | ((with_reducible (first | apply TD_q0y | apply TD_q1y)); exact rfl; exact rfl; (with_reducible exact rfl))); (first | ((with_reducible apply QS_load); exact rfl; (apply Lds.old; assumption; simp; assumption)) | ((with_reducible apply QS_sliceHigh); exact rfl; exact rfl; omega) | exact QS.auto); exact rfl) | (refine GO ?_) | (refine GOE ?_; (first | (rintro _ _ ⟨rfl, rfl⟩) | (rintro _ _ ⟨g, rfl, rfl⟩) | (rintro _ _ ⟨A', c', rfl, rfl⟩))) | ((refine GO2 ?_ ?_) <;> intro h <;> (try (repeat (first | with_reducible (replace h := of_decide_eq_true h) | with_reducible (replace h := of_decide_eq_false h) | with_reducible (replace h := bnt h) | with_reducible (replace h := bnf h) | with_reducible (replace h := Int.not_lt.mp h) | with_reducible (replace h := Int.not_le.mp h) | with_reducible (replace h := band_dec h) | with_reducible (replace h := band_decF h) | with_reducible (replace h := bor_dec h) | with_reducible (replace h := bor_decF h)))) <;> (try (exfalso; first | contradiction | omega))) | ((with_reducible (first | apply TD_e2z | apply TD_e3z | apply TL_e | apply TD_e2 | apply TD_e3)); ((with_reducible apply ES_callV (f := 112)); exact rfl; (intro w hw; exact hc w (hL.carry (hw.below0 rfl)) (hw.rd rfl hA)); exact rfl); (first | exact rfl | exact ⟨rfl, rfl, rfl⟩); (rintro _ _ ⟨rfl, rfl⟩); (try refine ⟨SUB, ?_⟩)) | fail)
          all_goals first | (((with_reducible apply At_retM Try.results59); (repeat (first | exact ResIs.nil | (apply ResIs.tmp; exact rfl) | (apply ResIs.cell; exact rfl; exact Lds.auto))); intro w' hw); exact ⟨by rw [hchk, firstN_at hkm hno (by rw [hgk]; simp [*])]; dsimp only; (try rw [hmk]); rfl, hw.below0 rfl⟩) | exact At_rounds (k + 1) ⟨hkm, fun j hj => (Nat.lt_succ_iff_lt_or_eq.1 hj).elim (fun e => hno j e) (fun e => by subst e; rw [hgk]; simp [*])⟩ (by omega) (by (repeat (first | exact SubE.nil _ | refine SubE.cons rfl ?_))) (by exact SUBS)
        · rw [decide_eq_true (by omega)] at hgk
          repeat' (first | ((first | with_reducible (first | apply TL_q | apply TD_q0 | apply TD_q1 | apply TD_q2 | apply TD_q3) | ((with_reducible (first | apply TD_q0y | apply TD_q1y)); exact rfl; exact rfl; (with_reducible exact rfl))); (first | ((with_reducible apply QS_load); exact rfl; (apply Lds.old; assumption; simp; assumption)) | ((with_reducible apply QS_sliceHigh); exact rfl; exact rfl; omega) | exact QS.auto); exact rfl) | (refine GO ?_) | (refine GOE ?_; (first | (rintro _ _ ⟨rfl, rfl⟩) | (rintro _ _ ⟨g, rfl, rfl⟩) | (rintro _ _ ⟨A', c', rfl, rfl⟩))) | ((refine GO2 ?_ ?_) <;> intro h <;> (try (repeat (first | with_reducible (replace h := of_decide_eq_true h) | with_reducible (replace h := of_decide_eq_false h) | with_reducible (replace h := bnt h) | with_reducible (replace h := bnf h) | with_reducible (replace h := Int.not_lt.mp h) | with_reducible (replace h := Int.not_le.mp h) | with_reducible (replace h := band_dec h) | with_reducible (replace h := band_decF h) | with_reducible (replace h := bor_dec h) | with_reducible (replace h := bor_decF h)))) <;> (try (exfalso; first | contradiction | omega))) | fail)
          all_goals first | (((with_reducible apply At_retM Try.results59); (repeat (first | exact ResIs.nil | (apply ResIs.tmp; exact rfl) | (apply ResIs.cell; exact rfl; exact Lds.auto))); intro w' hw); exact ⟨by rw [hchk, firstN_at hkm hno (by rw [hgk]; simp [*])]; dsimp only; (try rw [hmk]); rfl, hw.below0 rfl⟩) | exact At_rounds (k + 1) ⟨hkm, fun j hj => (Nat.lt_succ_iff_lt_or_eq.1 hj).elim (fun e => hno j e) (fun e => by subst e; rw [hgk]; simp [*])⟩ (by omega) (by (repeat (first | exact SubE.nil _ | refine SubE.cons rfl ?_))) (by exact SUBS)
      · obtain rfl : k = m.length := by omega
        rw [firstN_none hno] at hchk
        dsimp only at hchk
        repeat' (first | ((first | with_reducible (first | apply TL_q | apply TD_q0 | apply TD_q1 | apply TD_q2 | apply TD_q3) | ((with_reducible (first | apply TD_q0y | apply TD_q1y)); exact rfl; exact rfl; (with_reducible exact rfl))); (first | ((with_reducible apply QS_load); exact rfl; (apply Lds.old; assumption; simp; assumption)) | ((with_reducible apply QS_sliceHigh); exact rfl; exact rfl; omega) | exact QS.auto); exact rfl) | (refine GO ?_) | (refine GOE ?_; (first | (rintro _ _ ⟨rfl, rfl⟩) | (rintro _ _ ⟨g, rfl, rfl⟩) | (rintro _ _ ⟨A', c', rfl, rfl⟩))) | ((refine GO2 ?_ ?_) <;> intro h <;> (try (repeat (first | with_reducible (replace h := of_decide_eq_true h) | with_reducible (replace h := of_decide_eq_false h) | with_reducible (replace h := bnt h) | with_reducible (replace h := bnf h) | with_reducible (replace h := Int.not_lt.mp h) | with_reducible (replace h := Int.not_le.mp h) | with_reducible (replace h := band_dec h) | with_reducible (replace h := band_decF h) | with_reducible (replace h := bor_dec h) | with_reducible (replace h := bor_decF h)))) <;> (try (exfalso; first | contradiction | omega))) | fail)
        ((with_reducible apply At_retM Try.results59); (repeat (first | exact ResIs.nil | (apply ResIs.tmp; exact rfl) | (apply ResIs.cell; exact rfl; exact Lds.auto))); intro w' hw)
        exact ⟨by rw [hchk]; rfl, hw.below0 rfl⟩
end
end Go.Proofs.Ytbhjljnbjomnhaa

namespace Go.Proofs.Ytbhjljnbjomnhaa
open Go.RowKit
theorem flat_setW {α : Type} {enc : α → List Value} {M : Nat} (hM : ∀ x, (enc x).length = M) (xx : α) : ∀ (ls : List α) (j : Nat), j < ls.length →
    (ls.set j xx).flatMap enc = (ls.flatMap enc).take (j * M) ++ enc xx ++ (ls.flatMap enc).drop (j * M + M)
  | [], _, h => by simp at h
  | x :: ls, 0, _ => by
    simp only [List.set_cons_zero, List.flatMap_cons, Nat.zero_mul, List.take_zero, List.nil_append, Nat.zero_add]
    rw [List.drop_append, List.drop_eq_nil_of_le (by rw [hM]; exact Nat.le_refl _), hM, Nat.sub_self]
    simp
  | x :: ls, j + 1, h => by
    have ih := flat_setW hM xx ls j (by simpa using h)
    have e : (j + 1) * M = M + j * M := by rw [Nat.succ_mul]; omega
    simp only [List.set_cons_succ, List.flatMap_cons, ih, e]
    have t1 : List.take (M + j * M) (enc x ++ ls.flatMap enc) = enc x ++ (ls.flatMap enc).take (j * M) := by
      rw [List.take_append, List.take_of_length_le (l := enc x) (by rw [hM]; omega), hM, show M + j * M - M = j * M by omega]
    have t2 : List.drop (M + j * M + M) (enc x ++ ls.flatMap enc) = (ls.flatMap enc).drop (j * M + M) := by
      rw [List.drop_append, List.drop_of_length_le (l := enc x) (by rw [hM]; omega), hM, show M + j * M + M - M = j * M + M by omega, List.nil_append]
    rw [t1, t2]
    simp
section
variable {P : Program} {C : Ctx} {E : Slots} {S S' : List Ent} {ty s g c M e j : Nat} {ps : String} {af : Array Edge} {g0 : Option (Nat × Bool)} {x y : Operand} {α : Type} {enc : α → List Value} {ls : List α}
theorem ES_storeOwnAgg [hs : AggOf P s M] {xx : α} {us : List Value} (hx : evo E x = some (.pointer (some ⟨g, j * M, none⟩))) (hy : evo E y = some (.agg us.toArray)) (he : us = enc xx)
    (hu : Upd S (entOwn enc M e (some ⟨g, 0, none⟩) c ls) (entOwn enc M e (some ⟨g, 0, none⟩) c (ls.set j xx)) S') (hM : ∀ x, (enc x).length = M) (hj : j < ls.length) (h1 : (enc xx).all (·.oneCell') = true) :
    ES P C E S ⟨none, .store s x y, ty, ps, af, g0⟩ (fun E' T => E' = E ∧ T = S') := by
  subst he
  refine (ES_skip (fun T => T = S') (fun a w ha hw => ?_)).weak (by rintro _ _ ⟨rfl, rfl⟩; exact ⟨rfl, rfl⟩)
  have ho : Own enc M e w 0 (.slice (some ⟨g, 0, none⟩) ls.length c) ls := (hw.holds _ hu.mem).1
  obtain ⟨g', cap, cur, hv, hbb, hg, hnc, hcm, hcs, htake⟩ := ho.2.resolve_left (by simp)
  simp only [Value.slice.injEq, Option.some.injEq, Addr.mk.injEq, and_true, true_and] at hv
  obtain ⟨rfl, rfl⟩ := hv
  have hjM : j * M + M ≤ ls.length * M := by rw [← Nat.succ_mul]; exact Nat.mul_le_mul_right _ hj
  have hnM : ls.length * M ≤ c * M := Nat.mul_le_mul_right _ hnc
  have hfit : j * M + (enc xx).length ≤ cur.size := by rw [hM, hcs]; omega
  have hst := run_storeCells_at P g (j * M) e (enc xx) 0 cur w hg (by simpa using hfit) (fun u hu => List.all_eq_true.1 h1 u hu)
  simp only [Nat.add_zero] at hst
  have hcl : (cur.toList.take (j * M) ++ enc xx ++ cur.toList.drop (j * M + (enc xx).length)).length = cur.size := by
    simp only [List.length_append, List.length_take, List.length_drop, Array.length_toList]; omega
  refine ⟨w.setRow g (cur.toList.take (j * M) ++ enc xx ++ cur.toList.drop (j * M + (enc xx).length)).toArray, S', ?_, ?_, rfl⟩
  · have hsz : (Value.agg (enc xx).toArray).cells.size = M := by simp [Value.cells, hM]
    simp only [execOp, ha.evo hx, ha.evo hy, Instr.storeAt, Instr.sureAddr, storeVar, Sem.run_bind, Sem.run_pure, Result.andThen_ok, hs.size w, hsz]
    simp [Value.cells, hst]
  · refine hw.upd hu (Keeps.setRow w g _) (by simp [entOwn, Value.ownBlock]) (fun k hk => ?_) ?_
    · have hk' : some g = some k := hk
      cases hk'
      exact ⟨by simpa using (Array.getElem?_eq_some_iff.1 hg).1, .inl rfl⟩
    · show Own enc M e _ 0 (.slice (some ⟨g, 0, none⟩) (ls.set j xx).length c) (ls.set j xx)
      refine ⟨flat_len hM _, .inr ⟨g, c, _, rfl, Nat.zero_le _, setRow_heap w g cur _ e _ hg, by simpa using hnc, hcm, ?_, ?_⟩⟩
      · simp only [List.size_toArray]; rw [hcl, hcs]
      · rw [flat_setW hM xx ls j hj]
        simp only [List.length_set]
        rw [← htake, hM]
        have l1 : (cur.toList.take (j * M)).length = j * M := by rw [List.length_take, Array.length_toList, hcs]; omega
        have l2 : (cur.toList.take (j * M) ++ enc xx).length = j * M + M := by rw [List.length_append, l1, hM]
        rw [List.take_append, List.take_of_length_le (by rw [l2]; omega), l2, List.take_take, Nat.min_eq_left (by omega), List.drop_take]
theorem QS_indexVal {cs : Array Value} {n e j : Nat} {k : IntKind} {v : Value} [hs : ArrayOf P s n e 1] [h1 : OneCell P e] (hx : evo E x = some (.agg cs)) (hy : evo E y = some (.int k (j : Nat))) (hj : j < n) (hv : nthV cs.toList j = some v) : QS P C E S (.index s x y) ty v :=
  QS.of (fun a w ha _ => by
    have hr : (Instr.index s (.agg cs) (.int k (j : Nat))).run P w = .ok v w := by
      unfold Instr.index
      have h0 : (asIntOf (.int k (j : Nat))).run P w = .ok (k, (j : Int)) w := rfl
      have hj' : 0 ≤ (j : Int) ∧ (j : Int) < (n : Int) := by omega
      have hc : cs[j]? = some v := by rw [← hv, ← nthV_eq]; simp
      simp only [Sem.run_bind, h0, Result.andThen_ok, run_underlying hs.und, if_pos hj', hs.size w, Int.toNat_natCast, Nat.mul_one, part, h1.agg w]
      simp [hc]
    simp [execOp, ha.evo hx, ha.evo hy, hr])
theorem ES_makeSliceL {t d bytes n : Nat} {z : Value} {k k' : IntKind} {z0 : α} {zz : Int} [hs : SliceOf P t e M] [hi : InfoOf P e z M bytes] (hx : evo E x = some (.int k zz)) (hy : evo E y = some (.int k' zz)) (hn : IntLit zz n) (hz : z.cells.toList = enc z0)
    (hb : n * bytes ≤ 140737488355328) (hb0 : 0 < bytes) (hd : Nat.ble (d + 1) C.n = true) :
    ES P C E S ⟨some d, .makeSlice t x y, ty, ps, af, g0⟩ (fun E' T => ∃ g, E' = (d, .slice (some ⟨g, 0, none⟩) n n) :: E ∧ T = entOwn enc M e (some ⟨g, 0, none⟩) n (List.replicate n z0) :: S) :=
  ES_makeSlice (by rw [hx, hn.eq]) (by rw [hy, hn.eq]) hz hb hb0 hd
end
end Go.Proofs.Ytbhjljnbjomnhaa

namespace Go.Proofs.Ytbhjljnbjomnhaa
open Go.RowKit
theorem between_C (a b c : Int) (w : World) : Calls Try.prog 14 #[.int .i64 a, .int .i64 b, .int .i64 c] w fun e w' => e = .returned (.bool (decide (b ≤ a) && decide (a ≤ c))) ∧ Below w.heap.size w w' :=
  Calls.same_below (between_any a b c w)
set_option maxRecDepth 100000 in
theorem kinds_C (t : Int) (w : World) : Calls Try.prog 63 #[.int .i64 t] w fun e w' => ∃ A c, e = .returned (.slice A (kindsL t).length c) ∧ Own intEnc 1 3 w' w.heap.size (.slice A (kindsL t).length c) (kindsL t) ∧ Below w.heap.size w w' := by
  refine calls_T (S := []) [] Try.func63 rfl Try.ntmps63 (by simp) (Mem.nil _) ?_
  repeat' (first | (refine GO ?_) | (refine GOE ?_; (first | (rintro _ _ ⟨rfl, rfl⟩) | (rintro _ _ ⟨g, rfl, rfl⟩) | (rintro _ _ ⟨A', c', rfl, rfl⟩))) | ((refine GO2 ?_ ?_) <;> intro h <;> (try (repeat (first | with_reducible (replace h := of_decide_eq_true h) | with_reducible (replace h := of_decide_eq_false h) | with_reducible (replace h := bnt h) | with_reducible (replace h := bnf h) | with_reducible (replace h := Int.not_lt.mp h) | with_reducible (replace h := Int.not_le.mp h) | with_reducible (replace h := band_dec h) | with_reducible (replace h := band_decF h) | with_reducible (replace h := bor_dec h) | with_reducible (replace h := bor_decF h)))) <;> (try (exfalso; first | contradiction | omega))))
  all_goals (refine At_ret Try.results63 rfl (fun w' hw => ?_))
  all_goals try subst_vars
  all_goals first
    | exact ⟨_, _, rfl, hw.blkOut (enc := intEnc) [1, 2] rfl (by first | ((repeat (first | with_reducible exact List.mem_cons_self | with_reducible apply List.mem_cons_of_mem)); done) | (repeat (first | exact List.Mem.head _ | apply List.Mem.tail))) rfl (fun _ => rfl) (by decide), hw.below0 rfl⟩
    | exact ⟨_, _, rfl, hw.blkOut (enc := intEnc) [3, 4] rfl (by first | ((repeat (first | with_reducible exact List.mem_cons_self | with_reducible apply List.mem_cons_of_mem)); done) | (repeat (first | exact List.Mem.head _ | apply List.Mem.tail))) rfl (fun _ => rfl) (by decide), hw.below0 rfl⟩
    | exact ⟨_, _, rfl, hw.blkOut (enc := intEnc) [5, 6] rfl (by first | ((repeat (first | with_reducible exact List.mem_cons_self | with_reducible apply List.mem_cons_of_mem)); done) | (repeat (first | exact List.Mem.head _ | apply List.Mem.tail))) rfl (fun _ => rfl) (by decide), hw.below0 rfl⟩
    | exact ⟨_, _, rfl, hw.blkOut (enc := intEnc) [7, 8, 9] rfl (by first | ((repeat (first | with_reducible exact List.mem_cons_self | with_reducible apply List.mem_cons_of_mem)); done) | (repeat (first | exact List.Mem.head _ | apply List.Mem.tail))) rfl (fun _ => rfl) (by decide), hw.below0 rfl⟩
    | exact ⟨_, _, rfl, hw.blkOut (enc := intEnc) [10] rfl (by first | ((repeat (first | with_reducible exact List.mem_cons_self | with_reducible apply List.mem_cons_of_mem)); done) | (repeat (first | exact List.Mem.head _ | apply List.Mem.tail))) rfl (fun _ => rfl) (by decide), hw.below0 rfl⟩
    | (have e : kindsL t = [] := by simp [kindsL, *]
       rw [e]; exact ⟨none, 0, rfl, Own.nil _ _, hw.below0 rfl⟩)
theorem kindsC_len (t : Int) : (kindsL t).length ≤ 9223372036854775807 := by
  unfold kindsL
  repeat' split
  all_goals decide
theorem fits_C (t k : Int) (w : World) : Calls Try.prog 94 #[.int .i64 t, .int .i64 k] w fun e w' => e = .returned (.bool ((kindsL t).contains k)) ∧ Below w.heap.size w w' :=
  (Calls.same_below (fits_any t k w)).mono fun e w' h => by rw [← typeF_kinds]; exact h
theorem argument_C (k n : Int) (w : World) : Calls Try.prog 95 #[.int .i64 k, .int .i64 n] w fun e w' => e = .returned (.bool (argB k n)) ∧ Below w.heap.size w w' :=
  Calls.same_below (argument_any k n w)
end Go.Proofs.Ytbhjljnbjomnhaa
