/- Lemmas for the walks (Tk3, SrtStp, Tk5, VdS, Seq2, Seq4, Seq6). No condition. -/
import Derived.Test.YtjdckepbihcgfaaGreatDoorG15
import Derived.Test.YtjdckepbihcgfaaGreatDoorG06
import Derived.Test.YtjdckepbihcgfaaGreatDoorG09
import Derived.Test.YtjdckepbihcgfaaGreatDoorG04
import Derived.Test.YtjdckepbihcgfaaGreatDoorG05
import Derived.Shelf.SlSortCmp.NoneTotal
import Derived.Test.YtjdckepbihcgfaaGreatDoorG14
import Derived.Test.YtjdckepbihcgfaaGreatDoorG11
import Derived.Test.YtjdckepbihcgfaaGreatDoorRows
import Derived.Test.YtjdckepbihcgfaaGreatDoorG01
import Derived.RegionTactic
import Derived.BigRegion
import Derived.Laws.BitsAllLaws
import Derived.Laws.ShiftsVarLaws
set_option linter.unusedSimpArgs false
set_option linter.unusedVariables false
set_option linter.unusedSectionVars false
set_option linter.unnecessarySimpa false
namespace Go.Proofs.YtjdckepbihcgfaaGreatDoor
open Go.RowKit

section
variable (gl : Nat) (A P M : Option Addr) (ca cp cm : Nat) (cs : List Cl) (p m : List Nat) (w : World) (hL : Blk w gl 228 #[.slice A cs.length ca, .slice P p.length cp, .slice M m.length cm]) (hA : RdE Cl.enc 7 w A cs) (h200 : cs.length ≤ 200)
include hL hA h200
set_option maxRecDepth 100000 in
set_option maxHeartbeats 4000000 in
theorem can1_any (x : Cl) (i n b1 b2 b3 : Nat) (hi : i < cs.length) (h1 : b1 < w.heap.size) (hc1 : w.cell? ⟨b1, 0, none⟩ = some (.pointer (some ⟨gl, 0, none⟩))) (h2 : b2 < w.heap.size) (hc2 : w.cell? ⟨b2, 0, none⟩ = some (.int .i64 (i : Nat))) (h3 : b3 < w.heap.size) (hc3 : w.cell? ⟨b3, 0, none⟩ = some (.int .i64 (n : Nat))) :
    Calls Tryz.prog 189 #[.agg (Cl.enc x).toArray, .pointer (some ⟨b1, 0, none⟩), .pointer (some ⟨b2, 0, none⟩), .pointer (some ⟨b3, 0, none⟩)] w fun e w' => e = .returned (.bool (lateB cs i n x)) ∧ Below w.heap.size w w' := by
  have hl := hL.lt
  have hl0 : w.cell? ⟨gl, 0, none⟩ = some (.slice A cs.length ca) := hL.cell 0
  obtain ⟨bC, oC, rfl, _⟩ := RdE.open hA (by omega)
  have hck := clK_eq hi
  have hlate : lateB cs i n x = (decide (x.to ≠ -1) && (decide (x.to < cs[i].from_) && decide ((n : Int) ≤ x.res))) := by unfold lateB; rw [hck]
  rw [hlate]
  clear hlate hck
  refine calls_T (S := []) [] Tryz.func189 rfl Tryz.ntmps189 (by simp) (Mem.nil _) ?_
  repeat' (first | ((first | with_reducible (first | apply TL_q | apply TD_q0 | apply TD_q1 | apply TD_q2 | apply TD_q3) | ((with_reducible (first | apply TD_q0y | apply TD_q1y)); exact rfl; exact rfl; (with_reducible exact rfl))); (first | ((with_reducible apply QS_load); exact rfl; (apply Lds.old; assumption; simp; assumption)) | ((with_reducible apply QS_sliceHigh); exact rfl; exact rfl; omega) | exact QS.auto); exact rfl) | refine GG ?_ | (refine GE ?_; (first | rintro _ _ ⟨rfl, rfl⟩ | rintro _ _ ⟨g, rfl, rfl⟩ | rintro _ _ ⟨A', c', rfl, rfl⟩); (try refine ⟨SUB, ?_⟩)) | (refine GO2 ?_ ?_ <;> (refine Zs ?_; intro h; try exact Zx)) | refine GOF ?_ ?_ | ((with_reducible apply T_draw (id := 1) 1000 (OT.seq [(0, 0), (1, 1), (0, 2), (0, 3), (0, 4), (1, 5), (1, 6), (0, 7), (0, 8), (1, 9), (1, 10), (0, 11), (0, 12), (1, 13), (0, 14), (0, 15), (0, 16), (0, 17), (1, 18), (1, 19), (0, 20), (0, 21), (0, 22)] .nil)); kernel_rfl; exact rfl; kernel_rfl; (repeat (first | with_reducible exact Blind.body | with_reducible apply Blind.seq | with_reducible apply Blind.block))) | fail)
  all_goals
    refine At_ret Tryz.results189 rfl (fun w' hw => ?_)
    refine ⟨?_, hw.below0 rfl⟩
    congr 2
    first | (simp [*, resVal]; done) | (simp [*, resVal]; omega)
set_option maxRecDepth 100000 in
set_option maxHeartbeats 4000000 in
theorem can_any (i n : Nat) (hi : i < cs.length) : Calls Tryz.prog 163 #[.pointer (some ⟨gl, 0, none⟩), .int .i64 (i : Nat), .int .i64 (n : Nat)] w fun e w' => e = .returned (.bool (canT cs i n)) ∧ Below w.heap.size w w' := by
  have hl := hL.lt
  have hl0 : w.cell? ⟨gl, 0, none⟩ = some (.slice A cs.length ca) := hL.cell 0
  have hcl : ∀ (g3 g4 g5 : Nat) (S : List Ent) (w1 : World), Mem ⟨14, [], w⟩ w1 S → entBlk g3 178 #[.pointer (some ⟨gl, 0, none⟩)] ∈ S → entBlk g4 3 #[.int .i64 (i : Nat)] ∈ S → entBlk g5 3 #[.int .i64 (n : Nat)] ∈ S →
      Calls Tryz.prog 15 #[.slice A cs.length ca, .func (.func 189) #[] [.pointer (some ⟨g3, 0, none⟩), .pointer (some ⟨g4, 0, none⟩), .pointer (some ⟨g5, 0, none⟩)].toArray] w1 fun e w' => e = .returned (.bool (cs.any (lateB cs i n))) ∧ Below w1.heap.size w1 w' := fun g3 g4 g5 S w1 hw m3 m4 m5 => by
    have b3 : Blk w1 g3 178 #[.pointer (some ⟨gl, 0, none⟩)] := (hw.holds _ m3).1
    have b4 : Blk w1 g4 3 #[.int .i64 (i : Nat)] := (hw.holds _ m4).1
    have b5 : Blk w1 g5 3 #[.int .i64 (n : Nat)] := (hw.holds _ m5).1
    refine contCall_any 189 (lateB cs i n) _ A ca cs w1 (hw.rd rfl hA) (by omega) (fun s _ w2 h2 => ?_)
    exact can1_any gl A P M ca cp cm cs p m w2 ((hL.carry (hw.below0 rfl)).carry h2) (RdE.below (hw.rd rfl hA) h2) h200 s i n g3 g4 g5 hi (b3.carry h2).lt ((b3.carry h2).cell 0) (b4.carry h2).lt ((b4.carry h2).cell 0) (b5.carry h2).lt ((b5.carry h2).cell 0)
  refine calls_T (S := []) [] Tryz.func163 rfl Tryz.ntmps163 (by simp) (Mem.nil _) ?_
  repeat' (first | ((first | with_reducible (first | apply TL_q | apply TD_q0 | apply TD_q1 | apply TD_q2 | apply TD_q3) | ((with_reducible (first | apply TD_q0y | apply TD_q1y)); exact rfl; exact rfl; (with_reducible exact rfl))); (first | ((with_reducible apply QS_load); exact rfl; (apply Lds.old; assumption; simp; assumption)) | ((with_reducible apply QS_sliceHigh); exact rfl; exact rfl; omega) | exact QS.auto); exact rfl) | refine GO ?_ | (refine GOE ?_; (first | rintro _ _ ⟨rfl, rfl⟩ | rintro _ _ ⟨g, rfl, rfl⟩ | rintro _ _ ⟨A', c', rfl, rfl⟩)) | (refine GO2 ?_ ?_ <;> (refine Zs ?_; intro h; try exact Zx)) | ((with_reducible (first | apply TD_e2z | apply TD_e3z | apply TL_e | apply TD_e2 | apply TD_e3)); ((with_reducible apply ES_callV (f := 15) (v := .bool (cs.any (lateB cs i n)))); exact rfl; (intro w1 hw; exact hcl _ _ _ _ w1 hw Zm Zm Zm); exact rfl); (first | exact rfl | exact ⟨rfl, rfl, rfl⟩); (rintro _ _ ⟨rfl, rfl⟩); (try refine ⟨SUB, ?_⟩)) | fail)
  (refine At_ret Tryz.results163 rfl (fun w' hw => ?_))
  exact ⟨rfl, hw.below0 rfl⟩
end
theorem twB_eq {cs : List Cl} {i k : Nat} (hi : i < cs.length) (hk : k < cs.length) : twB cs i k = (decide (cs[i].to ≠ -1) && (decide (cs[k].to ≠ -1) && decide (cs[i].res = cs[k].res))) := by unfold twB; rw [clK_eq hi, clK_eq hk]
theorem ordB_eq {cs : List Cl} {i k : Nat} (hi : i < cs.length) (hk : k < cs.length) : ordB cs i k = (decide (cs[i].to ≠ -1) && (decide (cs[k].to ≠ -1) && (decide (cs[i].to < cs[k].from_) && decide (cs[k].res < cs[i].res)))) := by unfold ordB; rw [clK_eq hi, clK_eq hk]
section
variable (gl : Nat) (A P M : Option Addr) (ca cp cm : Nat) (cs : List Cl) (p m : List Nat) (w : World) (hL : Blk w gl 228 #[.slice A cs.length ca, .slice P p.length cp, .slice M m.length cm]) (hA : RdE Cl.enc 7 w A cs) (h200 : cs.length ≤ 200)
variable (hP : RdE natEnc 1 w P p) (hM : RdE natEnc 1 w M m) (hp : p = pendT cs) (hm : m = missT cs) (hml : m.length ≤ 2000) (hca : cs.length ≤ ca)
include hL hA h200 hP hM hp hm hml hca
set_option maxRecDepth 100000 in
set_option maxHeartbeats 8000000 in
theorem tkCheck_any : Calls Tryz.prog 122 #[.pointer (some ⟨gl, 0, none⟩)] w fun e w' => e = .returned (.agg (Bd.enc (checkT cs)).toArray) ∧ Below w.heap.size w w' := by
  have hl := hL.lt
  have hl0 : w.cell? ⟨gl, 0, none⟩ = some (.slice A cs.length ca) := hL.cell 0
  have hl1 : w.cell? ⟨gl, 1, none⟩ = some (.slice P p.length cp) := hL.cell 1
  have hl2 : w.cell? ⟨gl, 2, none⟩ = some (.slice M m.length cm) := hL.cell 2
  have hcan := fun i n w' h1 h2 hi => can_any gl A P M ca cp cm cs p m w' h1 h2 h200 i n hi
  have hplt : ∀ k (hk : k < p.length), p[k] < cs.length := fun k hk => (pendK_lt (cs := cs) (k := cs.length) (by rw [show pendK cs cs.length = p from hp.symm]; exact List.getElem_mem hk)).1
  have hpl : p.length ≤ cs.length := by rw [hp]; exact pendK_len cs cs.length
  have hgap : ∀ k (hk : k < m.length), gapB cs k = (decide (p.length ≤ k) || !canT cs (p.getD k 0) (m.getD k 0)) := fun k hk => by unfold gapB; rw [hp, hm]
  have hchk : checkT cs = match firstP cs.length (fun i => i) (twB cs) with
    | some (i, k) => ⟨2, i, k⟩
    | none => match firstP cs.length (fun _ => cs.length) (ordB cs) with
      | some (i, k) => ⟨6, i, k⟩
      | none => match firstN m.length (gapB cs) with
        | some k => ⟨8, (m.getD k 0 : Nat), 0⟩
        | none => ⟨0, 0, 0⟩ := by rw [hm]; rfl
  generalize checkT cs = V at *
  clear hp hm
  refine calls_T (S := []) [] Tryz.func122 rfl Tryz.ntmps122 (by simp) (Mem.nil _) ?_
  repeat' (first | ((first | with_reducible (first | apply TL_q | apply TD_q0 | apply TD_q1 | apply TD_q2 | apply TD_q3) | ((with_reducible (first | apply TD_q0y | apply TD_q1y)); exact rfl; exact rfl; (with_reducible exact rfl))); (first | ((with_reducible apply QS_load); exact rfl; (apply Lds.old; assumption; simp; assumption)) | ((with_reducible apply QS_sliceHigh); exact rfl; exact rfl; omega) | exact QS.auto); exact rfl) | refine GO ?_ | (refine GOE ?_; (first | rintro _ _ ⟨rfl, rfl⟩ | rintro _ _ ⟨g, rfl, rfl⟩ | rintro _ _ ⟨A', c', rfl, rfl⟩)) | (refine GO2 ?_ ?_ <;> (refine Zs ?_; intro h; try exact Zx)) | fail)
  obtain ⟨gb, rfl⟩ : ∃ x, x = g := ⟨_, rfl⟩
  refine T_loop (X := Nat) (fun i => [(18, .int .i64 (i : Nat)), (17, .int .i64 cs.length), (16, .slice A cs.length ca), (2, .pointer (some ⟨gb, 0, none⟩)), (0, .pointer (some ⟨gl, 0, none⟩))]) (fun _ => [entBlk gb 79 #[.int .i64 0, .int .i64 0, .int .i64 0]]) (fun i => i ≤ cs.length ∧ ∀ j, j < i → ∀ q, q < j → twB cs j q = false) (fun i => cs.length - i) 0 ⟨by omega, fun j hj => by omega⟩ Ze (by exact SUBS) ?_
  rintro i ⟨hi, hno⟩
  by_cases hil : i < cs.length
  · obtain ⟨bC, oC, rfl, _⟩ := RdE.open hA (by omega)
    repeat' (first | ((first | with_reducible (first | apply TL_q | apply TD_q0 | apply TD_q1 | apply TD_q2 | apply TD_q3) | ((with_reducible (first | apply TD_q0y | apply TD_q1y)); exact rfl; exact rfl; (with_reducible exact rfl))); (first | ((with_reducible apply QS_load); exact rfl; (apply Lds.old; assumption; simp; assumption)) | ((with_reducible apply QS_sliceHigh); exact rfl; exact rfl; omega) | exact QS.auto); exact rfl) | refine GO ?_ | (refine GOE ?_; (first | rintro _ _ ⟨rfl, rfl⟩ | rintro _ _ ⟨g, rfl, rfl⟩ | rintro _ _ ⟨A', c', rfl, rfl⟩)) | (refine GO2 ?_ ?_ <;> (refine Zs ?_; intro h; try exact Zx)) | fail)
    obtain ⟨g4, rfl⟩ : ∃ x, x = g := ⟨_, rfl⟩
    refine T_loop (X := Nat) (fun k => [(30, .int .i64 (k : Nat)), (29, .int .i64 (i : Nat)), (28, .slice (some ⟨bC, oC, none⟩) i ca), (4, .pointer (some ⟨g4, 0, none⟩)), (3, .int .i64 (i : Nat)), (18, .int .i64 (i : Nat)), (17, .int .i64 cs.length), (16, .slice (some ⟨bC, oC, none⟩) cs.length ca), (2, .pointer (some ⟨gb, 0, none⟩)), (0, .pointer (some ⟨gl, 0, none⟩))]) (fun _ => [entBlk g4 36 (Cl.enc cs[i]).toArray, entBlk gb 79 #[.int .i64 0, .int .i64 0, .int .i64 0]])
      (fun k => k ≤ i ∧ ∀ q, q < k → twB cs i q = false) (fun k => i - k) 0 ⟨by omega, fun q hq => by omega⟩ Ze (by exact SUBS) ?_
    rintro k ⟨hk, hno2⟩
    by_cases hki : k < i
    · have htw := twB_eq hil (show k < cs.length by omega)
      repeat' (first | ((first | with_reducible (first | apply TL_q | apply TD_q0 | apply TD_q1 | apply TD_q2 | apply TD_q3) | ((with_reducible (first | apply TD_q0y | apply TD_q1y)); exact rfl; exact rfl; (with_reducible exact rfl))); (first | ((with_reducible apply QS_load); exact rfl; (apply Lds.old; assumption; simp; assumption)) | ((with_reducible apply QS_sliceHigh); exact rfl; exact rfl; omega) | exact QS.auto); exact rfl) | refine GO ?_ | (refine GOE ?_; (first | rintro _ _ ⟨rfl, rfl⟩ | rintro _ _ ⟨g, rfl, rfl⟩ | rintro _ _ ⟨A', c', rfl, rfl⟩)) | (refine GO2 ?_ ?_ <;> (refine Zs ?_; intro h; try exact Zx)) | fail)
      all_goals
        first
          | (((with_reducible apply At_retM Tryz.results122); (repeat (first | exact ResIs.nil | (apply ResIs.tmp; exact rfl) | (apply ResIs.cell; exact rfl; exact Lds.auto))); intro w' hw); exact ⟨by rw [hchk, firstP_at hil hki hno hno2 (by rw [htw]; simp [*])]; rfl, hw.below0 rfl⟩)
          | exact At_rounds (k + 1) ⟨hki, fun q hq => (Nat.lt_succ_iff_lt_or_eq.1 hq).elim (fun e => hno2 q e) (fun e => by subst e; rw [htw]; first | (simp [*]; done) | (simp [*]; omega))⟩ (by omega) Ze (by exact SUBS)
    · obtain rfl : k = i := by omega
      repeat' (first | ((first | with_reducible (first | apply TL_q | apply TD_q0 | apply TD_q1 | apply TD_q2 | apply TD_q3) | ((with_reducible (first | apply TD_q0y | apply TD_q1y)); exact rfl; exact rfl; (with_reducible exact rfl))); (first | ((with_reducible apply QS_load); exact rfl; (apply Lds.old; assumption; simp; assumption)) | ((with_reducible apply QS_sliceHigh); exact rfl; exact rfl; omega) | exact QS.auto); exact rfl) | refine GO ?_ | (refine GOE ?_; (first | rintro _ _ ⟨rfl, rfl⟩ | rintro _ _ ⟨g, rfl, rfl⟩ | rintro _ _ ⟨A', c', rfl, rfl⟩)) | (refine GO2 ?_ ?_ <;> (refine Zs ?_; intro h; try exact Zx)) | fail)
      exact At_rounds (k + 1) ⟨hil, fun j hj => (Nat.lt_succ_iff_lt_or_eq.1 hj).elim (fun e => hno j e) (fun e => by subst e; exact hno2)⟩ (by omega) Ze (by exact SUBS)
  · obtain rfl : i = cs.length := by omega
    rw [firstP_none hno] at hchk
    dsimp only at hchk
    clear hno
    repeat' (first | ((first | with_reducible (first | apply TL_q | apply TD_q0 | apply TD_q1 | apply TD_q2 | apply TD_q3) | ((with_reducible (first | apply TD_q0y | apply TD_q1y)); exact rfl; exact rfl; (with_reducible exact rfl))); (first | ((with_reducible apply QS_load); exact rfl; (apply Lds.old; assumption; simp; assumption)) | ((with_reducible apply QS_sliceHigh); exact rfl; exact rfl; omega) | exact QS.auto); exact rfl) | refine GO ?_ | (refine GOE ?_; (first | rintro _ _ ⟨rfl, rfl⟩ | rintro _ _ ⟨g, rfl, rfl⟩ | rintro _ _ ⟨A', c', rfl, rfl⟩)) | (refine GO2 ?_ ?_ <;> (refine Zs ?_; intro h; try exact Zx)) | fail)
    refine T_loop (X := Nat) (fun i => [(60, .int .i64 (i : Nat)), (59, .int .i64 cs.length), (58, .slice A cs.length ca), (2, .pointer (some ⟨gb, 0, none⟩)), (0, .pointer (some ⟨gl, 0, none⟩))]) (fun _ => [entBlk gb 79 #[.int .i64 0, .int .i64 0, .int .i64 0]]) (fun i => i ≤ cs.length ∧ ∀ j, j < i → ∀ q, q < cs.length → ordB cs j q = false) (fun i => cs.length - i) 0 ⟨by omega, fun j hj => by omega⟩ Ze (by exact SUBS) ?_
    rintro i ⟨hi, hno⟩
    by_cases hil : i < cs.length
    · obtain ⟨bC, oC, rfl, _⟩ := RdE.open hA (by omega)
      repeat' (first | ((first | with_reducible (first | apply TL_q | apply TD_q0 | apply TD_q1 | apply TD_q2 | apply TD_q3) | ((with_reducible (first | apply TD_q0y | apply TD_q1y)); exact rfl; exact rfl; (with_reducible exact rfl))); (first | ((with_reducible apply QS_load); exact rfl; (apply Lds.old; assumption; simp; assumption)) | ((with_reducible apply QS_sliceHigh); exact rfl; exact rfl; omega) | exact QS.auto); exact rfl) | refine GO ?_ | (refine GOE ?_; (first | rintro _ _ ⟨rfl, rfl⟩ | rintro _ _ ⟨g, rfl, rfl⟩ | rintro _ _ ⟨A', c', rfl, rfl⟩)) | (refine GO2 ?_ ?_ <;> (refine Zs ?_; intro h; try exact Zx)) | fail)
      obtain ⟨g8, rfl⟩ : ∃ x, x = g := ⟨_, rfl⟩
      refine T_loop (X := Nat) (fun k => [(70, .int .i64 (k : Nat)), (69, .int .i64 cs.length), (68, .slice (some ⟨bC, oC, none⟩) cs.length ca), (8, .pointer (some ⟨g8, 0, none⟩)), (7, .int .i64 (i : Nat)), (60, .int .i64 (i : Nat)), (59, .int .i64 cs.length), (58, .slice (some ⟨bC, oC, none⟩) cs.length ca), (2, .pointer (some ⟨gb, 0, none⟩)), (0, .pointer (some ⟨gl, 0, none⟩))]) (fun _ => [entBlk g8 36 (Cl.enc cs[i]).toArray, entBlk gb 79 #[.int .i64 0, .int .i64 0, .int .i64 0]])
        (fun k => k ≤ cs.length ∧ ∀ q, q < k → ordB cs i q = false) (fun k => cs.length - k) 0 ⟨by omega, fun q hq => by omega⟩ Ze (by exact SUBS) ?_
      rintro k ⟨hk, hno2⟩
      by_cases hki : k < cs.length
      · have htw := ordB_eq hil hki
        repeat' (first | ((first | with_reducible (first | apply TL_q | apply TD_q0 | apply TD_q1 | apply TD_q2 | apply TD_q3) | ((with_reducible (first | apply TD_q0y | apply TD_q1y)); exact rfl; exact rfl; (with_reducible exact rfl))); (first | ((with_reducible apply QS_load); exact rfl; (apply Lds.old; assumption; simp; assumption)) | ((with_reducible apply QS_sliceHigh); exact rfl; exact rfl; omega) | exact QS.auto); exact rfl) | refine GO ?_ | (refine GOE ?_; (first | rintro _ _ ⟨rfl, rfl⟩ | rintro _ _ ⟨g, rfl, rfl⟩ | rintro _ _ ⟨A', c', rfl, rfl⟩)) | (refine GO2 ?_ ?_ <;> (refine Zs ?_; intro h; try exact Zx)) | fail)
        all_goals
          first
            | (((with_reducible apply At_retM Tryz.results122); (repeat (first | exact ResIs.nil | (apply ResIs.tmp; exact rfl) | (apply ResIs.cell; exact rfl; exact Lds.auto))); intro w' hw); exact ⟨by rw [hchk, firstP_at hil hki hno hno2 (by rw [htw]; simp [*])]; rfl, hw.below0 rfl⟩)
            | exact At_rounds (k + 1) ⟨hki, fun q hq => (Nat.lt_succ_iff_lt_or_eq.1 hq).elim (fun e => hno2 q e) (fun e => by subst e; rw [htw]; first | (simp [*]; done) | (simp [*]; omega))⟩ (by omega) Ze (by exact SUBS)
      · obtain rfl : k = cs.length := by omega
        repeat' (first | ((first | with_reducible (first | apply TL_q | apply TD_q0 | apply TD_q1 | apply TD_q2 | apply TD_q3) | ((with_reducible (first | apply TD_q0y | apply TD_q1y)); exact rfl; exact rfl; (with_reducible exact rfl))); (first | ((with_reducible apply QS_load); exact rfl; (apply Lds.old; assumption; simp; assumption)) | ((with_reducible apply QS_sliceHigh); exact rfl; exact rfl; omega) | exact QS.auto); exact rfl) | refine GO ?_ | (refine GOE ?_; (first | rintro _ _ ⟨rfl, rfl⟩ | rintro _ _ ⟨g, rfl, rfl⟩ | rintro _ _ ⟨A', c', rfl, rfl⟩)) | (refine GO2 ?_ ?_ <;> (refine Zs ?_; intro h; try exact Zx)) | fail)
        exact At_rounds (i + 1) ⟨hil, fun j hj => (Nat.lt_succ_iff_lt_or_eq.1 hj).elim (fun e => hno j e) (fun e => by subst e; exact hno2)⟩ (by omega) Ze (by exact SUBS)
    · obtain rfl : i = cs.length := by omega
      rw [firstP_none hno] at hchk
      dsimp only at hchk
      clear hno
      repeat' (first | ((first | with_reducible (first | apply TL_q | apply TD_q0 | apply TD_q1 | apply TD_q2 | apply TD_q3) | ((with_reducible (first | apply TD_q0y | apply TD_q1y)); exact rfl; exact rfl; (with_reducible exact rfl))); (first | ((with_reducible apply QS_load); exact rfl; (apply Lds.old; assumption; simp; assumption)) | ((with_reducible apply QS_sliceHigh); exact rfl; exact rfl; omega) | exact QS.auto); exact rfl) | refine GO ?_ | (refine GOE ?_; (first | rintro _ _ ⟨rfl, rfl⟩ | rintro _ _ ⟨g, rfl, rfl⟩ | rintro _ _ ⟨A', c', rfl, rfl⟩)) | (refine GO2 ?_ ?_ <;> (refine Zs ?_; intro h; try exact Zx)) | fail)
      refine T_loop (X := Nat) (fun k => [(107, .int .i64 (k : Nat)), (106, .int .i64 m.length), (105, .slice M m.length cm), (2, .pointer (some ⟨gb, 0, none⟩)), (0, .pointer (some ⟨gl, 0, none⟩))]) (fun _ => [entBlk gb 79 #[.int .i64 0, .int .i64 0, .int .i64 0]]) (fun k => k ≤ m.length ∧ ∀ j, j < k → gapB cs j = false) (fun k => m.length - k) 0 ⟨by omega, fun j hj => by omega⟩ Ze (by exact SUBS) ?_
      rintro k ⟨hk, hno⟩
      by_cases hkm : k < m.length
      · obtain ⟨bM, oM, rfl, _⟩ := RdE.open hM (by omega)
        have hgk := hgap k hkm
        have hmk : m.getD k 0 = m[k] := by simp [hkm]
        by_cases hkp : k < p.length
        · obtain ⟨bP, oP, rfl, _⟩ := RdE.open hP (by omega)
          have hpk : p.getD k 0 = p[k] := by simp [hkp]
          have hc := fun w' h1 h2 => hcan p[k] m[k] w' h1 h2 (hplt k hkp)
          rw [hpk, hmk, decide_eq_false (by omega), Bool.false_or] at hgk
          repeat' (first | ((first | with_reducible (first | apply TL_q | apply TD_q0 | apply TD_q1 | apply TD_q2 | apply TD_q3) | ((with_reducible (first | apply TD_q0y | apply TD_q1y)); exact rfl; exact rfl; (with_reducible exact rfl))); (first | ((with_reducible apply QS_load); exact rfl; (apply Lds.old; assumption; simp; assumption)) | ((with_reducible apply QS_sliceHigh); exact rfl; exact rfl; omega) | exact QS.auto); exact rfl) | refine GO ?_ | (refine GOE ?_; (first | rintro _ _ ⟨rfl, rfl⟩ | rintro _ _ ⟨g, rfl, rfl⟩ | rintro _ _ ⟨A', c', rfl, rfl⟩)) | (refine GO2 ?_ ?_ <;> (refine Zs ?_; intro h; try exact Zx)) | ((with_reducible (first | apply TD_e2z | apply TD_e3z | apply TL_e | apply TD_e2 | apply TD_e3)); ((with_reducible apply ES_callV (f := 163)); exact rfl; (intro w hw; exact hc w (hL.carry (hw.below0 rfl)) (hw.rd rfl hA)); exact rfl); (first | exact rfl | exact ⟨rfl, rfl, rfl⟩); (rintro _ _ ⟨rfl, rfl⟩); (try refine ⟨SUB, ?_⟩)) | fail)
          all_goals first | (((with_reducible apply At_retM Tryz.results122); (repeat (first | exact ResIs.nil | (apply ResIs.tmp; exact rfl) | (apply ResIs.cell; exact rfl; exact Lds.auto))); intro w' hw); exact ⟨by rw [hchk, firstN_at hkm hno (by rw [hgk]; simp [*])]; dsimp only; (try rw [hmk]); rfl, hw.below0 rfl⟩) | exact At_rounds (k + 1) ⟨hkm, fun j hj => (Nat.lt_succ_iff_lt_or_eq.1 hj).elim (fun e => hno j e) (fun e => by subst e; rw [hgk]; simp [*])⟩ (by omega) Ze (by exact SUBS)
        · rw [decide_eq_true (by omega)] at hgk
          repeat' (first | ((first | with_reducible (first | apply TL_q | apply TD_q0 | apply TD_q1 | apply TD_q2 | apply TD_q3) | ((with_reducible (first | apply TD_q0y | apply TD_q1y)); exact rfl; exact rfl; (with_reducible exact rfl))); (first | ((with_reducible apply QS_load); exact rfl; (apply Lds.old; assumption; simp; assumption)) | ((with_reducible apply QS_sliceHigh); exact rfl; exact rfl; omega) | exact QS.auto); exact rfl) | refine GO ?_ | (refine GOE ?_; (first | rintro _ _ ⟨rfl, rfl⟩ | rintro _ _ ⟨g, rfl, rfl⟩ | rintro _ _ ⟨A', c', rfl, rfl⟩)) | (refine GO2 ?_ ?_ <;> (refine Zs ?_; intro h; try exact Zx)) | fail)
          all_goals first | (((with_reducible apply At_retM Tryz.results122); (repeat (first | exact ResIs.nil | (apply ResIs.tmp; exact rfl) | (apply ResIs.cell; exact rfl; exact Lds.auto))); intro w' hw); exact ⟨by rw [hchk, firstN_at hkm hno (by rw [hgk]; simp [*])]; dsimp only; (try rw [hmk]); rfl, hw.below0 rfl⟩) | exact At_rounds (k + 1) ⟨hkm, fun j hj => (Nat.lt_succ_iff_lt_or_eq.1 hj).elim (fun e => hno j e) (fun e => by subst e; rw [hgk]; simp [*])⟩ (by omega) Ze (by exact SUBS)
      · obtain rfl : k = m.length := by omega
        rw [firstN_none hno] at hchk
        dsimp only at hchk
        repeat' (first | ((first | with_reducible (first | apply TL_q | apply TD_q0 | apply TD_q1 | apply TD_q2 | apply TD_q3) | ((with_reducible (first | apply TD_q0y | apply TD_q1y)); exact rfl; exact rfl; (with_reducible exact rfl))); (first | ((with_reducible apply QS_load); exact rfl; (apply Lds.old; assumption; simp; assumption)) | ((with_reducible apply QS_sliceHigh); exact rfl; exact rfl; omega) | exact QS.auto); exact rfl) | refine GO ?_ | (refine GOE ?_; (first | rintro _ _ ⟨rfl, rfl⟩ | rintro _ _ ⟨g, rfl, rfl⟩ | rintro _ _ ⟨A', c', rfl, rfl⟩)) | (refine GO2 ?_ ?_ <;> (refine Zs ?_; intro h; try exact Zx)) | fail)
        ((with_reducible apply At_retM Tryz.results122); (repeat (first | exact ResIs.nil | (apply ResIs.tmp; exact rfl) | (apply ResIs.cell; exact rfl; exact Lds.auto))); intro w' hw)
        exact ⟨by rw [hchk]; rfl, hw.below0 rfl⟩
end
end Go.Proofs.YtjdckepbihcgfaaGreatDoor

namespace Go.Proofs.YtjdckepbihcgfaaGreatDoor
open Go.RowKit Go.Shelf Go.Lib

end Go.Proofs.YtjdckepbihcgfaaGreatDoor

namespace Go.Proofs.YtjdckepbihcgfaaGreatDoor
open Go.RowKit Go.Shelf Go.Lib Go.Sort

section
variable {P : Program} {C : Ctx} {E : Slots} {S : List Ent} {ty s f : Nat} {x : Operand} {u v : Value}
theorem QS_fieldV (hx : evo E x = some u) (h : ∀ w, (Instr.field s u f).run P w = .ok v w) : QS P C E S (.field s x f) ty v :=
  QS.of (fun a w ha _ => by simp [execOp, ha.evo hx, h])
end
theorem bad_kind (a b c : Int) (w : World) : (Instr.field 79 (.agg #[.int .i64 a, .int .i64 b, .int .i64 c]) 0).run Tryz.prog w = .ok (.int .i64 a) w := by kernel_rfl
def tkR (l : List Ev) : Bool × Bd × Int := if (callsR [5] l).2.2 = 0 then (decide ((checkT (callsR [5] l).1).kind = 0), checkT (callsR [5] l).1, 0) else (false, ⟨0, 0, 0⟩, (callsR [5] l).2.2)
theorem numT_bd {cs : List Cl} (h : TkOk cs) : numT cs ≤ 1001 := by
  have := mostK_bd h cs.length (Nat.le_refl _)
  unfold numT; omega
section
variable (B0 : Option Addr) (d0 : Nat) (l : List Ev) (w : World) (hl : l.length ≤ 9223372036854775807) (hA : RdEv w B0 l)
include hl hA
set_option maxRecDepth 100000 in
set_option maxHeartbeats 4000000 in
theorem tkCheckA_any : Calls Tryz.prog 63 #[.slice B0 l.length d0] w fun e w' => e = .returned (.tuple #[.bool (tkR l).1, .agg (Bd.enc (tkR l).2.1).toArray, .int .i64 (tkR l).2.2]) ∧ Below w.heap.size w w' := by
  by_cases h : (callsR [5] l).2.2 = 0
  · have hok := tkOk_of h
    have hrd := fun w h1 => tkRead_ok B0 d0 l w hl h1 h
    unfold tkR
    rw [if_pos h]
    generalize (callsR [5] l).1 = cs at *
    clear h
    have hnb := numT_bd hok
    have hml : (missT cs).length ≤ 2000 := Nat.le_trans (missK_len cs _) (by omega)
    have hck := fun gl A1 PA MA c1 pc mc w h1 h2 h3 h4 hca => tkCheck_any gl A1 PA MA c1 pc mc cs (pendT cs) (missT cs) w h1 h2 hok.few h3 h4 rfl rfl hml hca
    generalize checkT cs = V at *
    obtain ⟨vk, va, vb⟩ := V
    rw [show Bd.enc ⟨vk, va, vb⟩ = [.int .i64 vk, .int .i64 va, .int .i64 vb] from rfl] at *
    refine calls_T (S := []) [] Tryz.func63 rfl Tryz.ntmps63 (by simp) (Mem.nil _) ?_
    repeat' (first | ((first | with_reducible (first | apply TL_q | apply TD_q0 | apply TD_q1 | apply TD_q2 | apply TD_q3) | ((with_reducible (first | apply TD_q0y | apply TD_q1y)); exact rfl; exact rfl; (with_reducible exact rfl))); (first | ((with_reducible apply QS_fieldV); exact rfl; exact fun w => bad_kind _ _ _ w) | exact QS.auto); exact rfl) | refine GO ?_ | (refine GOE ?_; (first | rintro _ _ ⟨rfl, rfl⟩ | rintro _ _ ⟨g, rfl, rfl⟩ | rintro _ _ ⟨A', c', rfl, rfl⟩)) | (refine GO2 ?_ ?_ <;> (refine Zs ?_; intro h; try exact Zx)) | ((with_reducible (first | apply TD_e2z | apply TD_e3z | apply TL_e | apply TD_e2 | apply TD_e3)); ((with_reducible apply ES_callNew (f := 121) (v := fun L : LG => .tuple #[.pointer (some ⟨L.g, 0, none⟩), .int .i64 0]) (S1 := fun L : LG => [entBlk L.g 228 #[.slice L.A cs.length L.ca, .slice L.P (pendT cs).length L.cp, .slice L.M (missT cs).length L.cm], entOwn Cl.enc 7 36 L.A L.ca cs, entOwn natEnc 1 3 L.P L.cp (pendT cs), entOwn natEnc 1 3 L.M L.cm (missT cs)])); exact rfl; (intro x; (try dsimp only); exact Za); (intro w hw; exact hrd w (hw.rd rfl hA)); exact rfl); (first | exact rfl | exact ⟨rfl, rfl, rfl⟩); (rintro _ _ ⟨⟨gl, A1, c1, PA, pc, MA, mc⟩, rfl, rfl⟩); (try refine ⟨SUB, ?_⟩)) | fail)
    dsimp only
    refine TL_fact (p := cs.length ≤ c1 ∧ (A1 = none → c1 = 0)) (fun w hw => hw.ownFacts (enc := Cl.enc) (M := 7) (et := 36) Zm) fun hf0 => ?_
    have hca := hf0.1
    repeat' (first | ((first | with_reducible (first | apply TL_q | apply TD_q0 | apply TD_q1 | apply TD_q2 | apply TD_q3) | ((with_reducible (first | apply TD_q0y | apply TD_q1y)); exact rfl; exact rfl; (with_reducible exact rfl))); (first | ((with_reducible apply QS_fieldV); exact rfl; exact fun w => bad_kind _ _ _ w) | exact QS.auto); exact rfl) | refine GG ?_ | (refine GE ?_; (first | rintro _ _ ⟨rfl, rfl⟩ | rintro _ _ ⟨g, rfl, rfl⟩ | rintro _ _ ⟨A', c', rfl, rfl⟩); (try refine ⟨SUB, ?_⟩)) | (refine GO2 ?_ ?_ <;> (refine Zs ?_; intro h; try exact Zx)) | refine GOF ?_ ?_ | ((with_reducible apply T_draw (id := 5) 5 (OT.seq [(0, 0), (1, 1), (0, 2), (0, 4), (1, 3), (3, 5), (0, 6)] .nil)); kernel_rfl; exact rfl; kernel_rfl; (repeat (first | with_reducible exact Blind.body | with_reducible apply Blind.seq | with_reducible apply Blind.block))) | ((with_reducible (first | apply TD_e2z | apply TD_e3z | apply TL_e | apply TD_e2 | apply TD_e3)); ((with_reducible apply ES_callV (f := 122)); exact rfl; (intro w hw; exact hck gl A1 PA MA c1 pc mc w (hw.holds _ Zm).1 (hw.ownRd Zm (fun _ => rfl)) (hw.ownRd Zm (fun _ => rfl)) (hw.ownRd Zm (fun _ => rfl)) hca); exact rfl); (first | exact rfl | exact ⟨rfl, rfl, rfl⟩); (rintro _ _ ⟨rfl, rfl⟩); (try refine ⟨SUB, ?_⟩)) | fail)
    ((with_reducible apply At_retM Tryz.results63); (repeat (first | exact ResIs.nil | (apply ResIs.tmp; exact rfl) | (apply ResIs.cell; exact rfl; exact Lds.auto))); intro w' hw)
    exact ⟨rfl, hw.below0 rfl⟩
  · have hrd := fun w h1 => tkRead_err B0 d0 l w hl h1 h
    unfold tkR
    rw [if_neg h]
    generalize (callsR [5] l).2.2 = er at *
    refine calls_T (S := []) [] Tryz.func63 rfl Tryz.ntmps63 (by simp) (Mem.nil _) ?_
    repeat' (first | ((first | with_reducible (first | apply TL_q | apply TD_q0 | apply TD_q1 | apply TD_q2 | apply TD_q3) | ((with_reducible (first | apply TD_q0y | apply TD_q1y)); exact rfl; exact rfl; (with_reducible exact rfl))); (first | ((with_reducible apply QS_fieldV); exact rfl; exact fun w => bad_kind _ _ _ w) | exact QS.auto); exact rfl) | refine GO ?_ | (refine GOE ?_; (first | rintro _ _ ⟨rfl, rfl⟩ | rintro _ _ ⟨g, rfl, rfl⟩ | rintro _ _ ⟨A', c', rfl, rfl⟩)) | (refine GO2 ?_ ?_ <;> (refine Zs ?_; intro h; try exact Zx)) | ((with_reducible (first | apply TD_e2z | apply TD_e3z | apply TL_e | apply TD_e2 | apply TD_e3)); ((with_reducible apply ES_callV (f := 121)); exact rfl; (intro w hw; exact hrd w (hw.rd rfl hA)); exact rfl); (first | exact rfl | exact ⟨rfl, rfl, rfl⟩); (rintro _ _ ⟨rfl, rfl⟩); (try refine ⟨SUB, ?_⟩)) | fail)
    ((with_reducible apply At_retM Tryz.results63); (repeat (first | exact ResIs.nil | (apply ResIs.tmp; exact rfl) | (apply ResIs.cell; exact rfl; exact Lds.auto))); intro w' hw)
    exact ⟨rfl, hw.below0 rfl⟩
end
section
variable (B0 : Option Addr) (d0 : Nat) (l : List Ev) (w : World) (hl : l.length ≤ 9223372036854775807) (hA : RdEv w B0 l)
include hl hA
end
end Go.Proofs.YtjdckepbihcgfaaGreatDoor

namespace Go.Proofs.YtjdckepbihcgfaaGreatDoor
open Go.RowKit

theorem rng_getD {s : List Int} (h : ∀ x ∈ s, 0 ≤ x ∧ x ≤ 1000) (i : Nat) : 0 ≤ s.getD i 0 ∧ s.getD i 0 ≤ 1000 := by
  by_cases hi : i < s.length
  · rw [show s.getD i 0 = s[i] by simp [hi]]; exact h _ (List.getElem_mem hi)
  · rw [show s.getD i 0 = 0 by simp [Nat.le_of_not_lt hi]]; omega
theorem valid_rng {typ : Int} {s : List Int} (h : validS typ s = true) : ∀ x ∈ s, 0 ≤ x ∧ x ≤ 1000 := by
  have hall : s.all okI = true → ∀ x ∈ s, 0 ≤ x ∧ x ≤ 1000 := fun h x hx => by
    have := List.all_eq_true.1 h x hx
    unfold okI at this
    rw [Bool.and_eq_true, decide_eq_true_eq, decide_eq_true_eq] at this
    omega
  unfold validS at h
  split at h
  · unfold oneB at h
    simp only [Bool.and_eq_true, decide_eq_true_eq] at h
    intro x hx
    rcases s with _ | ⟨a, _ | ⟨b, r⟩⟩
    · cases hx
    · rw [List.mem_singleton] at hx; subst hx; exact h.2
    · simp at h
  · split at h
    · rw [Bool.and_eq_true] at h; exact hall h.2
    · exact hall h
theorem step_res {typ : Int} {s : List Int} {k a : Int} (h : validS typ s = true) : -1 ≤ (stepP typ s k a).2.1 ∧ (stepP typ s k a).2.1 ≤ 1000 := by
  have hr := rng_getD (valid_rng h)
  have h0 := hr 0
  have h1 := hr (s.length - 1)
  have hs : ∀ k, 0 ≤ (setP s k a).2 ∧ (setP s k a).2 ≤ 1 := fun k => by
    unfold setP
    repeat' split
    all_goals (constructor <;> (dsimp only; omega))
  have h2 := hs k
  unfold stepP
  repeat' split
  all_goals first | (dsimp only; omega) | (constructor <;> decide)
/-- what is so of the steps that are found -/
structure StepsOk (cs : List Cl) (f : Nat → Nat) (w : List Stp) : Prop where
  res : ∀ s ∈ w, -1 ≤ s.res ∧ s.res ≤ 1000
  call : ∀ s ∈ w, 0 ≤ s.call ∧ s.call.toNat < cs.length
  order : ∀ (p q : Nat) (s t : Stp), w[p]? = some s → w[q]? = some t → (f s.call.toNat).testBit t.call.toNat = true → p ≤ q
  once : ∀ (p q : Nat) (s t : Stp), w[p]? = some s → w[q]? = some t → s.call.toNat = t.call.toNat → p = q
  mask : ∀ i, (maskW w).testBit i = true ↔ ∃ s ∈ w, s.call.toNat = i
theorem steps_nil (cs : List Cl) (f : Nat → Nat) : StepsOk cs f [] := ⟨by simp, by simp, fun p q s t h => by simp at h, fun p q s t h => by simp at h, fun i => by simp [maskW]⟩
theorem chk_valid {typ : Int} {s : List Int} (h : chkS typ s = 0) : validS typ s = true := by
  unfold chkS at h
  split at h
  · split at h
    · cases h
    · split at h
      · assumption
      · cases h
  · cases h
theorem at_snoc {w : List Stp} {x s : Stp} {p : Nat} (h : (w ++ [x])[p]? = some s) : w[p]? = some s ∨ (p = w.length ∧ s = x) := by
  rw [List.getElem?_append] at h
  split at h
  · exact .inl h
  · rename_i hp
    have : p - w.length = 0 := by
      rcases Nat.eq_zero_or_pos (p - w.length) with h0 | h0
      · exact h0
      · rw [List.getElem?_eq_none (by simp; omega)] at h; cases h
    rw [this] at h
    exact .inr ⟨by omega, (Option.some.inj h).symm⟩
theorem steps_next {ts : List Int} {cs : List Cl} {f : Nat → Nat} (hcs : CallsOk ts cs) {w : List Stp} {i : Nat} (hp : PathW ts cs w) (h : StepsOk cs f w) (hi : i < cs.length) (hn : (maskW w).testBit i = false) (hf : f i &&& maskW w = 0) : StepsOk cs f (nextW ts cs w i) := by
  have hres : -1 ≤ (stepSt ts cs (statesW ts cs w) i).2.1 ∧ (stepSt ts cs (statesW ts cs w) i).2.1 ≤ 1000 := by
    unfold stepSt
    refine step_res (chk_valid ?_)
    obtain ⟨h1, h2, _, _⟩ := hcs i hi
    exact hp.sts.2 (callAt cs i).thing.toNat (by omega)
  have hlt : ∀ (p : Nat) (s : Stp), w[p]? = some s → p < w.length := fun p s h => (List.getElem?_eq_some_iff.1 h).1
  have hmem : ∀ (p : Nat) (s : Stp), w[p]? = some s → (maskW w).testBit s.call.toNat = true := fun p s hs => (h.mask _).2 ⟨s, List.mem_of_getElem? hs, rfl⟩
  have hnew : ((i : Nat) : Int).toNat = i := by omega
  unfold nextW
  generalize (stepSt ts cs (statesW ts cs w) i).2.1 = r at *
  refine ⟨fun s hs => ?_, fun s hs => ?_, fun p q s t h1 h2 hb => ?_, fun p q s t h1 h2 he => ?_, fun j => ?_⟩
  · rcases List.mem_append.1 hs with hs | hs
    · exact h.res s hs
    · rw [List.mem_singleton.1 hs]; exact hres
  · rcases List.mem_append.1 hs with hs | hs
    · exact h.call s hs
    · rw [List.mem_singleton.1 hs]; exact ⟨by dsimp only; omega, by dsimp only; omega⟩
  · rcases at_snoc h1 with h1 | ⟨rfl, rfl⟩
    · rcases at_snoc h2 with h2 | ⟨rfl, rfl⟩
      · exact h.order p q s t h1 h2 hb
      · have := hlt p s h1; omega
    · rcases at_snoc h2 with h2 | ⟨rfl, rfl⟩
      · exfalso
        have hb' : (f i).testBit t.call.toNat = true := by rw [← hnew]; exact hb
        have h3 := congrArg (fun m => m.testBit t.call.toNat) hf
        simp only [Nat.testBit_and, Nat.zero_testBit, hb', hmem q t h2, Bool.and_self] at h3
        cases h3
      · exact Nat.le_refl _
  · rcases at_snoc h1 with h1 | ⟨rfl, rfl⟩
    · rcases at_snoc h2 with h2 | ⟨rfl, rfl⟩
      · exact h.once p q s t h1 h2 he
      · exfalso
        have he' : s.call.toNat = i := by rw [← hnew]; exact he
        have := hmem p s h1
        rw [he', hn] at this; cases this
    · rcases at_snoc h2 with h2 | ⟨rfl, rfl⟩
      · exfalso
        have he' : i = t.call.toNat := by rw [← hnew]; exact he
        have := hmem q t h2
        rw [← he', hn] at this; cases this
      · rfl
  · rw [maskW_snoc, Nat.testBit_or, Bool.or_eq_true, h.mask j]
    dsimp only
    rw [hnew, Nat.testBit_two_pow, decide_eq_true_eq]
    constructor
    · rintro (⟨s, hs, e⟩ | e)
      · exact ⟨s, List.mem_append_left _ hs, e⟩
      · exact ⟨⟨(i : Int), r⟩, List.mem_append_right _ (List.mem_singleton.2 rfl), by dsimp only; omega⟩
    · rintro ⟨s, hs, e⟩
      rcases List.mem_append.1 hs with hs | hs
      · exact .inl ⟨s, hs, e⟩
      · rw [List.mem_singleton.1 hs] at e
        dsimp only at e
        exact .inr (by omega)
theorem found_steps {ts : List Int} {cs : List Cl} {f : Nat → Nat} (hcs : CallsOk ts cs) : ∀ (k : Nat) (w : List Stp), PathW ts cs w → StepsOk cs f w → ∀ r, srchC ts cs f k w = some r → PathW ts cs r ∧ StepsOk cs f r ∧ compW cs r = true
  | 0, w, hp, hq, r, h => by
    unfold srchC at h
    rw [srch] at h
    split at h
    · rename_i hc; cases h; exact ⟨hp, hq, hc⟩
    · cases h
  | k + 1, w, hp, hq, r, h => by
    unfold srchC at h
    rw [srch] at h
    split at h
    · rename_i hc; cases h; exact ⟨hp, hq, hc⟩
    · obtain ⟨i, hi, hr⟩ := List.exists_of_findSome?_eq_some h
      rw [List.mem_range] at hi
      split at hr
      · rename_i hc
        obtain ⟨h1, h2, h3⟩ := canC_iff.1 hc
        exact found_steps hcs k _ (path_next hcs hp hi h1 (fitsSt_iff.1 h3).1) (steps_next hcs hp hq hi h1 h2) r hr
      · cases hr
theorem find_steps {ts : List Int} {l : List Ev} {F : List Cl → Nat → Nat} {r : List Stp} (h : findS ts l F = some r) : PathW ts (fewS ts l).1 r ∧ StepsOk (fewS ts l).1 (F (fewS ts l).1) r ∧ compW (fewS ts l).1 r = true ∧ r.length ≤ 9 := by
  unfold findS at h
  split at h
  · rename_i h0
    have hs := fewS_facts h0
    obtain ⟨h1, h2, h3⟩ := found_steps hs.calls _ [] (path_nil hs.types) (steps_nil _ _) r h
    have := h1.len
    have := hs.few
    exact ⟨h1, h2, h3, by omega⟩
  · cases h
end Go.Proofs.YtjdckepbihcgfaaGreatDoor

namespace Go.Proofs.YtjdckepbihcgfaaGreatDoor
open Go.RowKit

section
variable (A0 B0 D : Option Addr) (c0 d0 dc : Nat) (ts : List Int) (l : List Ev) (v : List Stp) (w : World) (hts : ts.length ≤ 9223372036854775807) (hl : l.length ≤ 9223372036854775807) (hv : v.length ≤ 9223372036854775807) (hT : RdInt w A0 ts) (hA : RdEv w B0 l) (hD : RdStp w D v)
include hts hl hT hA
set_option maxRecDepth 100000 in
set_option maxHeartbeats 1000000 in
theorem seqFind_any : Calls Tryz.prog 10 #[.slice A0 ts.length c0, .slice B0 l.length d0] w fun e w' => ∃ A c, e = .returned (.tuple #[.slice A ((findS ts l relPeople).getD []).length c, .bool (findS ts l relPeople).isSome, .int .i64 (fewS ts l).2]) ∧
    Own Stp.enc 2 49 w' w.heap.size (.slice A ((findS ts l relPeople).getD []).length c) ((findS ts l relPeople).getD []) ∧ Below w.heap.size w w' := by
  have h1 := fun w h1 h2 => searchCalls_any A0 B0 c0 d0 ts l w hts hl h1 h2
  have hf := fewS_facts (ts := ts) (l := l)
  unfold findS
  generalize fewS ts l = F at *
  obtain ⟨cs, er⟩ := F
  dsimp only at h1 hf ⊢
  refine calls_T (S := []) [] Tryz.func10 rfl Tryz.ntmps10 (by simp) (Mem.nil _) ?_
  by_cases h0 : er = 0
  · subst h0
    have hs := hf rfl
    have h9 := hs.few
    have hah := fun A c w' h => programs_any A c cs w' h (by omega)
    have hsm := fun A c w' h1 h2 => smallest_any A0 A c0 c ts cs cs.length (relPeople cs) w' hs.types hs.calls h9 (fun i _ => relPeople_16 cs (by omega) i) h1 h2
    rw [if_pos rfl]
    generalize foundS ts cs (relPeople cs) = o at *
    repeat' (first | refine GO ?_ | (refine GOE ?_; (first | rintro _ _ ⟨rfl, rfl⟩ | rintro _ _ ⟨g, rfl, rfl⟩ | rintro _ _ ⟨A', c', rfl, rfl⟩)) | (refine GO2 ?_ ?_ <;> (refine Zs ?_; intro h; try exact Zx)) | ((with_reducible (first | apply TD_e2z | apply TD_e3z | apply TL_e | apply TD_e2 | apply TD_e3)); ((with_reducible apply ES_callOwn (f := 42)); exact rfl; (intro w hw; exact h1 w (hw.rd rfl hT) (hw.rd rfl hA)); exact rfl); (first | exact rfl | exact ⟨rfl, rfl, rfl⟩); (rintro _ _ ⟨A1, c1, rfl, rfl⟩); (try refine ⟨SUB, ?_⟩)) | ((with_reducible (first | apply TD_e2z | apply TD_e3z | apply TL_e | apply TD_e2 | apply TD_e3)); ((with_reducible apply ES_callV (f := 44)); exact rfl; (intro w hw; exact hah _ _ w (hw.ownRd Zm (fun _ => rfl))); exact rfl); (first | exact rfl | exact ⟨rfl, rfl, rfl⟩); (rintro _ _ ⟨rfl, rfl⟩); (try refine ⟨SUB, ?_⟩)) | ((with_reducible (first | apply TD_e2z | apply TD_e3z | apply TL_e | apply TD_e2 | apply TD_e3)); ((with_reducible apply ES_callOwn (f := 43)); exact rfl; (intro w hw; exact hsm _ _ w (hw.rd rfl hT) (hw.ownRd Zm (fun _ => rfl))); exact rfl); (first | exact rfl | exact ⟨rfl, rfl, rfl⟩); (rintro _ _ ⟨A5, c5, rfl, rfl⟩); (try refine ⟨SUB, ?_⟩)) | fail)
    (refine At_ret Tryz.results10 rfl (fun w' hw => ?_))
    exact ⟨A5, c5, rfl, hw.ownOut rfl Zm, hw.below0 rfl⟩
  · rw [if_neg h0]
    repeat' (first | refine GO ?_ | (refine GOE ?_; (first | rintro _ _ ⟨rfl, rfl⟩ | rintro _ _ ⟨g, rfl, rfl⟩ | rintro _ _ ⟨A', c', rfl, rfl⟩)) | (refine GO2 ?_ ?_ <;> (refine Zs ?_; intro h; try exact Zx)) | ((with_reducible (first | apply TD_e2z | apply TD_e3z | apply TL_e | apply TD_e2 | apply TD_e3)); ((with_reducible apply ES_callOwn (f := 42)); exact rfl; (intro w hw; exact h1 w (hw.rd rfl hT) (hw.rd rfl hA)); exact rfl); (first | exact rfl | exact ⟨rfl, rfl, rfl⟩); (rintro _ _ ⟨A1, c1, rfl, rfl⟩); (try refine ⟨SUB, ?_⟩)) | fail)
    (refine At_ret Tryz.results10 rfl (fun w' hw => ?_))
    exact ⟨none, 0, rfl, Own.nil _ _, hw.below0 rfl⟩
end
end Go.Proofs.YtjdckepbihcgfaaGreatDoor

namespace Go.Proofs.YtjdckepbihcgfaaGreatDoor
open Go.RowKit

theorem ep_bounds (l : List Ev) : ∀ k, k ≤ l.length → -(k : Int) ≤ (epTo l k).2.1 ∧ (epTo l k).2.1 ≤ k ∧ 0 ≤ (epTo l k).2.2 ∧ (epTo l k).2.2 ≤ k ∧ (epTo l k).1.length ≤ k
  | 0, _ => by simp [epTo]
  | k + 1, hk => by
    obtain ⟨h1, h2, h3, h4, h5⟩ := ep_bounds l k (by omega)
    rw [epTo_succ (by omega)]
    unfold epStep
    split
    · dsimp only
      split <;> omega
    · dsimp only
      rw [List.length_append, List.length_singleton]
      omega
section
variable (B : Option Addr) (d : Nat) (l : List Ev) (w : World) (hA : RdEv w B l) (hl : l.length ≤ 200)
include hA hl
set_option maxRecDepth 100000 in
set_option maxHeartbeats 1000000 in
theorem epochs_any : Calls Tryz.prog 45 #[.slice B l.length d] w fun e w' => ∃ A c, e = .returned (.slice A (epTo l l.length).1.length c) ∧ Own intEnc 1 3 w' w.heap.size (.slice A (epTo l l.length).1.length c) (epTo l l.length).1 ∧ Below w.heap.size w w' := by
  refine calls_T (S := []) [] Tryz.func45 rfl Tryz.ntmps45 (by simp) (Mem.nil _) ?_
  repeat' (first | refine GO ?_ | (refine GOE ?_; (first | rintro _ _ ⟨rfl, rfl⟩ | rintro _ _ ⟨g, rfl, rfl⟩ | rintro _ _ ⟨A', c', rfl, rfl⟩)) | (refine GO2 ?_ ?_ <;> (refine Zs ?_; intro h; try exact Zx)) | fail)
  refine T_loop (X := Nat × Option Addr × Nat) (fun x => [(10, .int .i64 (x.1 : Nat)), (9, .int .i64 l.length), (8, .slice B l.length d), (5, .int .i64 (epTo l x.1).2.2), (4, .int .i64 (epTo l x.1).2.1), (3, .slice x.2.1 (epTo l x.1).1.length x.2.2)])
    (fun x => [entOwn intEnc 1 3 x.2.1 x.2.2 (epTo l x.1).1]) (fun x => x.1 ≤ l.length) (fun x => l.length - x.1) (0, none, 0) (by (try dsimp only); omega) Ze (fun w' hw => (hw.nilOwn intEnc 1 3).sub (by first | ((repeat (first | with_reducible exact List.nil_sublist _ | with_reducible exact List.Sublist.refl _ | with_reducible apply List.Sublist.cons_cons | with_reducible apply List.Sublist.cons)); done) | (repeat (first | exact List.nil_sublist _ | exact List.Sublist.refl _ | apply List.Sublist.cons_cons | apply List.Sublist.cons)))) ?_
  rintro ⟨k, A, c⟩ hk
  dsimp only at hk ⊢
  by_cases hkl : k < l.length
  · obtain ⟨b, o, rfl, _⟩ := RdE.open hA (by omega)
    obtain ⟨b1, b2, b3, b4, b5⟩ := ep_bounds l k (by omega)
    have hst := epTo_succ hkl
    generalize epTo l k = st at *
    obtain ⟨out, opn, ep⟩ := st
    dsimp only at b1 b2 b3 b4 b5 hst ⊢
    repeat' (first | refine GO ?_ | (refine GOE ?_; (first | rintro _ _ ⟨rfl, rfl⟩ | rintro _ _ ⟨g, rfl, rfl⟩ | rintro _ _ ⟨A', c', rfl, rfl⟩)) | (refine GO2 ?_ ?_ <;> (refine Zs ?_; intro h; try exact Zx)) | ((with_reducible (first | apply TD_e2z | apply TD_e3z | apply TL_e | apply TD_e2 | apply TD_e3)); ((with_reducible apply ES_append1 (enc := intEnc) (xx := ep)); exact rfl; exact rfl; (repeat (first | with_reducible exact List.mem_cons_self | with_reducible apply List.mem_cons_of_mem)); exact rfl; exact fun _ => rfl; exact fun _ => rfl; (intro A' c'; first | ((repeat (first | with_reducible exact Upd.here _ _ _ | with_reducible apply Upd.there)); done) | (repeat (first | exact Upd.here _ _ _ | apply Upd.there))); (omega); decide; exact rfl); (first | exact rfl | exact ⟨rfl, rfl, rfl⟩); (rintro _ _ ⟨A', c', rfl, rfl⟩); (try refine ⟨SUB, ?_⟩)) | fail)
    · have e : epTo l (k + 1) = (out, opn - 1, ep + 1) := by
        rw [hst]; unfold epStep
        rw [if_pos (by assumption)]
        dsimp only
        rw [if_pos (by assumption)]
      apply At_rounds (k + 1, A, c)
      case hE => dsimp only; rw [e]; exact Ze
      case hS => dsimp only; rw [e]; exact SUBS
      case hμ => (try dsimp only); omega
      case hp => (try dsimp only); omega
    · have e : epTo l (k + 1) = (out, opn - 1, ep) := by
        rw [hst]; unfold epStep
        rw [if_pos (by assumption)]
        dsimp only
        rw [if_neg (by assumption)]
      apply At_rounds (k + 1, A, c)
      case hE => dsimp only; rw [e]; exact Ze
      case hS => dsimp only; rw [e]; exact SUBS
      case hμ => (try dsimp only); omega
      case hp => (try dsimp only); omega
    · have e : epTo l (k + 1) = (out ++ [ep], opn + 1, ep) := by
        rw [hst]; unfold epStep
        rw [if_neg (by assumption)]
      apply At_rounds (k + 1, A', c')
      case hE => dsimp only; rw [e]; exact Ze
      case hS => dsimp only; rw [e]; exact SUBS
      case hμ => (try dsimp only); omega
      case hp => (try dsimp only); omega
  · obtain rfl : k = l.length := by omega
    generalize (epTo l l.length).1 = L at *
    repeat' (first | refine GO ?_ | (refine GOE ?_; (first | rintro _ _ ⟨rfl, rfl⟩ | rintro _ _ ⟨g, rfl, rfl⟩ | rintro _ _ ⟨A', c', rfl, rfl⟩)) | (refine GO2 ?_ ?_ <;> (refine Zs ?_; intro h; try exact Zx)) | fail)
    (refine At_ret Tryz.results45 rfl (fun w' hw => ?_))
    exact ⟨A, c, rfl, hw.ownOut rfl Zm, hw.below0 rfl⟩
end
section
variable (A : Option Addr) (c : Nat) (cs : List Cl) (w : World) (hA : RdCl w A cs) (h9 : cs.length ≤ 12) (hfr : ∀ q (h : q < cs.length), 0 ≤ cs[q].from_ ∧ cs[q].from_ < 200)
include hA h9 hfr
end
end Go.Proofs.YtjdckepbihcgfaaGreatDoor

namespace Go.Proofs.YtjdckepbihcgfaaGreatDoor
open Go.RowKit

theorem few_epochs {ts : List Int} {l : List Ev} (h : (fewS ts l).2 = 0) : l.length ≤ 200 ∧ (epTo l l.length).1 = calmL (fewS ts l).1 := by
  by_cases h0 : (callsR ts l).2.2 = 0
  · by_cases h9 : 9 < (callsR ts l).1.length
    · rw [fewS_large h0 h9] at h; cases h
    · obtain ⟨_, h2, h3, h4⟩ := callsR_inv h0
      rw [fewS_ok h0 h9]
      refine ⟨h2, ?_⟩
      show _ = calmL (callsR ts l).1
      rw [h4]
      exact epochs_calm h3
  · rw [fewS_err h0] at h; exact absurd h h0
theorem calmL_len (cs : List Cl) : (calmL cs).length = cs.length := by simp [calmL]
section
variable (A0 B0 : Option Addr) (c0 d0 : Nat) (ts : List Int) (l : List Ev) (w : World) (hts : ts.length ≤ 9223372036854775807) (hl : l.length ≤ 9223372036854775807) (hT : RdInt w A0 ts) (hA : RdEv w B0 l)
include hts hl hT hA
set_option maxRecDepth 100000 in
set_option maxHeartbeats 4000000 in
theorem seqQuiet_any : Calls Tryz.prog 11 #[.slice A0 ts.length c0, .slice B0 l.length d0] w fun e w' => ∃ A c, e = .returned (.tuple #[.slice A ((findS ts l relCalm).getD []).length c, .bool (findS ts l relCalm).isSome, .int .i64 (fewS ts l).2]) ∧
    Own Stp.enc 2 49 w' w.heap.size (.slice A ((findS ts l relCalm).getD []).length c) ((findS ts l relCalm).getD []) ∧ Below w.heap.size w w' := by
  have h1 := fun w h1 h2 => searchCalls_any A0 B0 c0 d0 ts l w hts hl h1 h2
  have hf := fewS_facts (ts := ts) (l := l)
  have hfe := few_epochs (ts := ts) (l := l)
  unfold findS
  generalize fewS ts l = F at *
  obtain ⟨cs, er⟩ := F
  dsimp only at h1 hf hfe ⊢
  refine calls_T (S := []) [] Tryz.func11 rfl Tryz.ntmps11 (by simp) (Mem.nil _) ?_
  by_cases h0 : er = 0
  · subst h0
    have hs := hf rfl
    have h9 := hs.few
    obtain ⟨hl2, hee⟩ := hfe rfl
    have hep := fun w h => epochs_any B0 d0 l w h hl2
    rw [hee] at hep
    have hsm := fun A c w' h1 h2 => smallest_any A0 A c0 c ts cs cs.length (relCalm cs) w' hs.types hs.calls h9 (fun i _ => relCalm_16 cs (by omega) i) h1 h2
    have hLl := calmL_len cs
    have hLg : ∀ i (h : i < cs.length), (calmL cs)[i]'(by rw [hLl]; exact h) = (calmN cs i : Int) := by intro i h; simp [calmL]
    rw [if_pos rfl]
    generalize foundS ts cs (relCalm cs) = o at *
    obtain ⟨L, hLe⟩ : ∃ L, calmL cs = L := ⟨_, rfl⟩
    simp only [hLe] at hep hLl hLg
    repeat' (first | refine GO ?_ | (refine GOE ?_; (first | rintro _ _ ⟨rfl, rfl⟩ | rintro _ _ ⟨g, rfl, rfl⟩ | rintro _ _ ⟨A', c', rfl, rfl⟩)) | (refine GO2 ?_ ?_ <;> (refine Zs ?_; intro h; try exact Zx)) | ((with_reducible (first | apply TD_e2z | apply TD_e3z | apply TL_e | apply TD_e2 | apply TD_e3)); ((with_reducible apply ES_callOwn (f := 42)); exact rfl; (intro w hw; exact h1 w (hw.rd rfl hT) (hw.rd rfl hA)); exact rfl); (first | exact rfl | exact ⟨rfl, rfl, rfl⟩); (rintro _ _ ⟨A1, c1, rfl, rfl⟩); (try refine ⟨SUB, ?_⟩)) | ((with_reducible (first | apply TD_e2z | apply TD_e3z | apply TL_e | apply TD_e2 | apply TD_e3)); ((with_reducible apply ES_callOwn (f := 45)); exact rfl; (intro w hw; exact hep w (hw.rd rfl hA)); exact rfl); (first | exact rfl | exact ⟨rfl, rfl, rfl⟩); (rintro _ _ ⟨A5, c5, rfl, rfl⟩); (try refine ⟨SUB, ?_⟩)) | fail)
    obtain ⟨gr, rfl⟩ : ∃ x, x = g := ⟨_, rfl⟩
    refine T_loop (X := Nat) (fun k => [(31, .int .i64 (k : Nat)), (30, .int .i64 L.length), (10, .slice A5 L.length c5), (9, .pointer (some ⟨gr, 0, none⟩)), (7, .slice A1 cs.length c1), (0, .slice A0 ts.length c0)])
      (fun k => [entOwn intEnc 1 3 A5 c5 L, entBlk gr 43 (relCells cs.length (relN (orP (fun _ _ => false) (calmP cs) k 0) cs.length)), entOwn Cl.enc 7 36 A1 c1 cs]) (fun k => k ≤ cs.length) (fun k => cs.length - k) 0 (by omega) Ze (fun w hw => by rw [orP_0, relN_0]; exact hw) ?_
    intro k hk
    by_cases hkk : k < cs.length
    · have hLm : 0 < L.length := by omega
      refine T_own (enc := intEnc) (ls := L) Zm hLm ?_
      rintro gA rfl
      have hkL : k < L.length := by omega
      repeat' (first | refine GO ?_ | (refine GOE ?_; (first | rintro _ _ ⟨rfl, rfl⟩ | rintro _ _ ⟨g, rfl, rfl⟩ | rintro _ _ ⟨A', c', rfl, rfl⟩)) | (refine GO2 ?_ ?_ <;> (refine Zs ?_; intro h; try exact Zx)) | fail)
      refine T_loop (X := Nat) (fun m => [(36, .int .i64 (m : Nat)), (35, .int .i64 L.length), (11, .int .i64 (k : Nat)), (31, .int .i64 (k : Nat)), (30, .int .i64 L.length), (10, .slice (some ⟨gA, 0, none⟩) L.length c5), (9, .pointer (some ⟨gr, 0, none⟩)), (7, .slice A1 cs.length c1), (0, .slice A0 ts.length c0)])
        (fun m => [entOwn intEnc 1 3 (some ⟨gA, 0, none⟩) c5 L, entBlk gr 43 (relCells cs.length (relN (orP (fun _ _ => false) (calmP cs) k m) cs.length)), entOwn Cl.enc 7 36 A1 c1 cs]) (fun m => m ≤ cs.length) (fun m => cs.length - m) 0 (by omega) Ze (fun w hw => hw) ?_
      intro m hml
      by_cases hmm : m < cs.length
      · have hq : calmP cs k m = decide (calmN cs k < calmN cs m) := rfl
        have hmL : m < L.length := by omega
        have hgk := hLg k hkk
        have hgm := hLg m hmm
        have hlt := relN_lt (orP (fun _ _ => false) (calmP cs) k m) (n := cs.length) (by omega) k
        have hpm := pow_lt_16 (m := m) (by omega)
        have hyes := relN_yes (P := fun _ _ => false) (Q := calmP cs) hkk hmm
        have hno := relN_no (P := fun _ _ => false) (Q := calmP cs) (n := cs.length) (k := k) (m := m)
        obtain ⟨F, hFF⟩ : ∃ F, relN (orP (fun _ _ => false) (calmP cs) k m) cs.length = F := ⟨_, rfl⟩
        rw [hFF] at hyes hno hlt ⊢
        repeat' (first | refine GG ?_ | (refine GE ?_; (first | rintro _ _ ⟨rfl, rfl⟩ | rintro _ _ ⟨g, rfl, rfl⟩ | rintro _ _ ⟨A', c', rfl, rfl⟩); (try refine ⟨SUB, ?_⟩)) | (refine GO2 ?_ ?_ <;> (refine Zs ?_; intro h; try exact Zx)) | refine GOF ?_ ?_ | ((with_reducible apply T_draw (id := 12) 1000 (OT.seq [(0, 0), (0, 1), (0, 2), (0, 4), (0, 5), (0, 6), (1, 3), (1, 7), (0, 8)] .nil)); kernel_rfl; exact rfl; kernel_rfl; (repeat (first | with_reducible exact Blind.body | with_reducible apply Blind.seq | with_reducible apply Blind.block))) | fail)
        all_goals
          refine At_rounds (m + 1) (by omega) (by omega) Ze (fun w hw => ?_)
          first
            | (rw [← hyes (by rw [hq]; exact decide_eq_true (by omega))]; exact hw)
            | (rw [← hno (by rw [hq]; exact decide_eq_false (by omega))]; exact hw)
      · obtain rfl : m = cs.length := by omega
        repeat' (first | refine GO ?_ | (refine GOE ?_; (first | rintro _ _ ⟨rfl, rfl⟩ | rintro _ _ ⟨g, rfl, rfl⟩ | rintro _ _ ⟨A', c', rfl, rfl⟩)) | (refine GO2 ?_ ?_ <;> (refine Zs ?_; intro h; try exact Zx)) | fail)
        refine At_rounds (k + 1) (by omega) (by omega) Ze (fun w hw => ?_)
        rw [← relN_next]
        exact hw
    · obtain rfl : k = cs.length := by omega
      have hdone : relN (orP (fun _ _ => false) (calmP cs) cs.length 0) cs.length = relCalm cs := by rw [relN_done, relCalm_done]
      rw [hdone]
      generalize relCalm cs = R at *
      repeat' (first | refine GO ?_ | (refine GOE ?_; (first | rintro _ _ ⟨rfl, rfl⟩ | rintro _ _ ⟨g, rfl, rfl⟩ | rintro _ _ ⟨A', c', rfl, rfl⟩)) | (refine GO2 ?_ ?_ <;> (refine Zs ?_; intro h; try exact Zx)) | ((with_reducible (first | apply TD_e2z | apply TD_e3z | apply TL_e | apply TD_e2 | apply TD_e3)); ((with_reducible apply ES_callOwn (f := 43)); exact rfl; (intro w hw; exact hsm _ _ w (hw.rd rfl hT) (hw.ownRd Zm (fun _ => rfl))); exact rfl); (first | exact rfl | exact ⟨rfl, rfl, rfl⟩); (rintro _ _ ⟨A6, c6, rfl, rfl⟩); (try refine ⟨SUB, ?_⟩)) | fail)
      (refine At_ret Tryz.results11 rfl (fun w' hw => ?_))
      exact ⟨A6, c6, rfl, hw.ownOut rfl Zm, hw.below0 rfl⟩
  · rw [if_neg h0]
    repeat' (first | refine GO ?_ | (refine GOE ?_; (first | rintro _ _ ⟨rfl, rfl⟩ | rintro _ _ ⟨g, rfl, rfl⟩ | rintro _ _ ⟨A', c', rfl, rfl⟩)) | (refine GO2 ?_ ?_ <;> (refine Zs ?_; intro h; try exact Zx)) | ((with_reducible (first | apply TD_e2z | apply TD_e3z | apply TL_e | apply TD_e2 | apply TD_e3)); ((with_reducible apply ES_callOwn (f := 42)); exact rfl; (intro w hw; exact h1 w (hw.rd rfl hT) (hw.rd rfl hA)); exact rfl); (first | exact rfl | exact ⟨rfl, rfl, rfl⟩); (rintro _ _ ⟨A1, c1, rfl, rfl⟩); (try refine ⟨SUB, ?_⟩)) | fail)
    (refine At_ret Tryz.results11 rfl (fun w' hw => ?_))
    exact ⟨none, 0, rfl, Own.nil _ _, hw.below0 rfl⟩
end
end Go.Proofs.YtjdckepbihcgfaaGreatDoor
