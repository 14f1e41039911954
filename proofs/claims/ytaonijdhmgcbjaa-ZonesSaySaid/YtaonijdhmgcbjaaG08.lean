/- Lemmas for the walks (SrtZcl, ZnS, Fct, Ifc, Zn7, Idx, CtClu, Own2). No condition. -/
import Derived.Test.YtaonijdhmgcbjaaG07
import Derived.Test.YtaonijdhmgcbjaaG01
import Derived.Test.YtaonijdhmgcbjaaG05
import Derived.Test.YtaonijdhmgcbjaaG03
set_option linter.unusedSimpArgs false
set_option linter.unusedVariables false
set_option linter.unusedSectionVars false
set_option linter.unnecessarySimpa false
namespace Go.Proofs.Ytaonijdhmgcbjaa
open Go.RowKit Go.Shelf Go.Lib

def rhoZcl : Ren := ⟨fun n => if n = 6 then 61 else if n = 14 then 82 else if n = 15 then 83 else if n = 20 then 94 else if n = 21 then 95 else if n = 22 then 96 else if n = 23 then 97 else if n = 24 then 98 else if n = 25 then 99 else if n = 26 then 100 else if n = 27 then 101 else if n = 28 then 102 else if n = 29 then 103 else if n = 46 then 118 else if n = 47 then 119 else if n = 48 then 120 else if n = 49 then 121 else if n = 50 then 122 else if n = 57 then 127 else n, fun n => if n = 0 then 0 else if n = 3 then 3 else if n = 4 then 4 else if n = 5 then 5 else if n = 9 then 9 else if n = 22 then 102 else if n = 24 then 138 else if n = 25 then 142 else if n = 39 then 170 else if n = 45 then 185 else if n = 46 then 186 else if n = 50 then 108 else if n = 53 then 192 else if n = 55 then 194 else if n = 66 then 205 else if n = 70 then 209 else if n = 76 then 225 else if n = 77 then 226 else n, fun n => n⟩
set_option maxRecDepth 100000 in
theorem srtZcl : SlLaysF0.n6 Try.prog rhoZcl where
  mixed := by kernel_rfl
  f6 := ⟨ "slices.SortFunc[[]alibi/zones.cluster,alibi/zones.cluster]", rfl, by kernel_rfl⟩
  f14 := ⟨ "slices.pdqsortCmpFunc[alibi/zones.cluster]", rfl, by kernel_rfl⟩
  f15 := by kernel_rfl
  f20 := ⟨ "slices.insertionSortCmpFunc[alibi/zones.cluster]", rfl, by kernel_rfl⟩
  f21 := ⟨ "slices.heapSortCmpFunc[alibi/zones.cluster]", rfl, by kernel_rfl⟩
  f22 := ⟨ "slices.breakPatternsCmpFunc[alibi/zones.cluster]", rfl, by kernel_rfl⟩
  f23 := ⟨ "slices.choosePivotCmpFunc[alibi/zones.cluster]", rfl, by kernel_rfl⟩
  f24 := ⟨ "slices.reverseRangeCmpFunc[alibi/zones.cluster]", rfl, by kernel_rfl⟩
  f25 := ⟨ "slices.partialInsertionSortCmpFunc[alibi/zones.cluster]", rfl, by kernel_rfl⟩
  f26 := ⟨ "slices.partitionEqualCmpFunc[alibi/zones.cluster]", rfl, by kernel_rfl⟩
  f27 := ⟨ "slices.partitionCmpFunc[alibi/zones.cluster]", rfl, by kernel_rfl⟩
  f28 := by kernel_rfl
  f29 := by kernel_rfl
  f46 := ⟨ "slices.siftDownCmpFunc[alibi/zones.cluster]", rfl, by kernel_rfl⟩
  f47 := by kernel_rfl
  f48 := by kernel_rfl
  f49 := ⟨ "slices.medianAdjacentCmpFunc[alibi/zones.cluster]", rfl, by kernel_rfl⟩
  f50 := ⟨ "slices.medianCmpFunc[alibi/zones.cluster]", rfl, by kernel_rfl⟩
  f57 := ⟨ "slices.order2CmpFunc[alibi/zones.cluster]", rfl, by kernel_rfl⟩
  t0 := Try.underlying0
  a0 := Try.isAgg0
  z0 := Try.sizeOf0
  v0 := Try.zeroValue0
  t3 := Try.underlying3
  a3 := Try.isAgg3
  z3 := Try.sizeOf3
  v3 := Try.zeroValue3
  t4 := Try.underlying4
  a4 := Try.isAgg4
  z4 := Try.sizeOf4
  v4 := Try.zeroValue4
  t5 := Try.underlying5
  a5 := Try.isAgg5
  z5 := Try.sizeOf5
  v5 := Try.zeroValue5
  t9 := Try.underlying9
  a9 := Try.isAgg9
  z9 := Try.sizeOf9
  v9 := Try.zeroValue9
  t22 := Try.underlying102
  a22 := Try.isAgg102
  z22 := Try.sizeOf102
  v22 := Try.zeroValue102
  t25 := Try.underlying142
  a25 := Try.isAgg142
  z25 := Try.sizeOf142
  v25 := Try.zeroValue142
  t39 := Try.underlying170
  a39 := Try.isAgg170
  z39 := Try.sizeOf170
  v39 := Try.zeroValue170
  t45 := Try.underlying185
  a45 := Try.isAgg185
  z45 := Try.sizeOf185
  v45 := Try.zeroValue185
  t46 := Try.underlying186
  a46 := Try.isAgg186
  z46 := Try.sizeOf186
  v46 := Try.zeroValue186
  t50 := Try.underlying108
  a50 := Try.isAgg108
  z50 := Try.sizeOf108
  v50 := Try.zeroValue108
  t53 := Try.underlying192
  a53 := Try.isAgg192
  z53 := Try.sizeOf192
  v53 := Try.zeroValue192
  t55 := Try.underlying194
  a55 := Try.isAgg194
  z55 := Try.sizeOf194
  v55 := Try.zeroValue194
  t66 := Try.underlying205
  a66 := Try.isAgg205
  z66 := Try.sizeOf205
  v66 := Try.zeroValue205
  t70 := Try.underlying209
  a70 := Try.isAgg209
  z70 := Try.sizeOf209
  v70 := Try.zeroValue209
  t76 := Try.underlying225
  a76 := Try.isAgg225
  z76 := Try.sizeOf225
  v76 := Try.zeroValue225
  t77 := Try.underlying226
  a77 := Try.isAgg226
  z77 := Try.sizeOf226
  v77 := Try.zeroValue226
end Go.Proofs.Ytaonijdhmgcbjaa

namespace Go.Proofs.Ytaonijdhmgcbjaa
open Go.RowKit Go.Shelf Go.Lib Go.Sort

set_option maxHeartbeats 1000000 in
theorem znNaN_any (x : Int) (w : World) : Calls Try.prog 84 #[.int .i64 x] w fun e w' => e = .returned (.bool false) ∧ w' = w := by
  go_enter Try.func84, Try.ntmps84
  go_wp2_with (fail)
  go_ret
  exact ⟨by simp, rfl⟩
set_option maxHeartbeats 1000000 in
theorem znCmp_any (x y : Int) (w : World) : Calls Try.prog 63 #[.int .i64 x, .int .i64 y] w fun e w' => e = .returned (.int .i64 (Lib.compareInt x y)) ∧ w' = w := by
  go_enter Try.func63, Try.ntmps63
  go_wp2_with (go_at_call 84; refine (znNaN_any _ _).mono ?_; rintro e w' ⟨rfl, hw⟩; rw [hw])
  all_goals (go_ret; refine ⟨?_, rfl⟩; unfold Lib.compareInt; (repeat' split) <;> first | rfl | (exfalso; omega))
set_option maxHeartbeats 1000000 in
theorem cluCmp_any (x y : Clu) (W : World) : Calls Try.prog 62 #[.agg (Clu.enc x).toArray, .agg (Clu.enc y).toArray] W fun e w' => e = .returned (.int .i64 (Lib.compareInt x.value y.value)) ∧ ∃ q os', w' = grow (W.drewN q) os' := by
  obtain ⟨x0, x1, x2, x3, x4, x5, x6, x7, x8⟩ := x
  obtain ⟨y0, y1, y2, y3, y4, y5, y6, y7, y8⟩ := y
  dsimp only
  rw [show (Clu.enc ⟨x0, x1, x2, x3, x4, x5, x6, x7, x8⟩).toArray = #[.int .i64 x0, .int .i64 x1, .int .i64 x2, .slice x3.a x3.n x3.c, .int .i64 x4, .int .i64 x5, .int .i64 x6, .bool x7, .bool x8] from rfl, show (Clu.enc ⟨y0, y1, y2, y3, y4, y5, y6, y7, y8⟩).toArray = #[.int .i64 y0, .int .i64 y1, .int .i64 y2, .slice y3.a y3.n y3.c, .int .i64 y4, .int .i64 y5, .int .i64 y6, .bool y7, .bool y8] from rfl]
  go_enter Try.func62, Try.ntmps62
  go_wp2_with (go_at_call 63; refine (znCmp_any _ _ _).mono ?_; rintro e w' ⟨rfl, hw⟩; rw [hw])
  go_ret
  exact ⟨rfl, 0, _, by rw [alloc_eq_grow, alloc_eq_grow, grow_grow]; rfl⟩
theorem cluLt (x y : Clu) : ltOf (fun x y : Clu => Lib.compareInt x.value y.value) x y = decide (x.value < y.value) := by
  unfold ltOf Lib.compareInt
  by_cases h1 : x.value < y.value
  · simp [h1]
  · by_cases h2 : y.value < x.value <;> simp [h1, h2]
theorem clu_swo : SWO (ltOf fun x y : Clu => Lib.compareInt x.value y.value) where
  irrefl x := by rw [cluLt]; simp
  trans x y z h1 h2 := by rw [cluLt] at *; simp at *; omega
  ntrans x y z h1 h2 := by rw [cluLt] at *; simp at *; omega
abbrev CluTo (ls : List Clu) := SortTo (fun x y : Clu => Lib.compareInt x.value y.value) ls
theorem cluTo_le {ls : List Clu} (x : CluTo ls) : x.1.Pairwise fun a b => a.value ≤ b.value :=
  x.2.2.imp fun {a b} h => by
    have h2 := cluLt b a
    unfold ltOf at h2
    rw [decide_eq_false h] at h2
    have := of_decide_eq_false h2.symm
    omega
set_option maxRecDepth 100000 in
theorem clu_sort (A : Option Addr) (c : Nat) (ls : List Clu) (w : World) (ho : Own Clu.enc 9 138 w 0 (.slice A ls.length c) ls) (hsz : ls.length < 4611686018427387904) :
    Calls Try.prog 61 #[.slice A ls.length c, .func (.func 62) #[] #[]] w fun e w' => ∃ x : CluTo ls, e = .returned (.tuple #[]) ∧ Mem ⟨0, blks [entOwn Clu.enc 9 138 A c ls], w⟩ w' [entOwn Clu.enc 9 138 A c x.1] := by
  have eg : ∀ args w, (callFunc 62 args).run Try.prog w = .ok (.enter 62 args) w := enters_of Try.func62 (by kernel_rfl) rfl
  exact sort_mem srtZcl (cb := #[]) Try.isAgg138 Try.sizeOf138 (fun _ => rfl) (fun x v hv => by simp [Clu.enc] at hv; rcases hv with rfl | rfl | rfl | rfl | rfl | rfl | rfl | rfl | rfl <;> rfl) (fun x y : Clu => Lib.compareInt x.value y.value) clu_swo eg (fun x y W => by rw [show (#[Value.agg (Clu.enc x).toArray, Value.agg (Clu.enc y).toArray] ++ (#[] : Array Value)) = #[Value.agg (Clu.enc x).toArray, Value.agg (Clu.enc y).toArray] from Array.append_empty]; exact cluCmp_any x y W) A c ls w ho hsz
end Go.Proofs.Ytaonijdhmgcbjaa

namespace Go.Proofs.Ytaonijdhmgcbjaa
open Go.RowKit

theorem Own.facts {α : Type} {enc : α → List Value} {M e : Nat} {w : World} {B n c : Nat} {A : Option Addr} {ls : List α} (h : Own enc M e w B (.slice A n c) ls) : ls.length ≤ c ∧ (A = none → c = 0) := by
  rcases h.2 with ⟨hv, h0⟩ | ⟨g, cap, cur, hv, _, _, hn, _⟩
  · simp only [Value.slice.injEq] at hv
    obtain ⟨rfl, -, rfl⟩ := hv
    exact ⟨by omega, fun _ => rfl⟩
  · simp only [Value.slice.injEq] at hv
    obtain ⟨rfl, -, rfl⟩ := hv
    exact ⟨hn, fun h => by cases h⟩
theorem T_fact {P : Program} {C : Ctx} {Q : Exit → Act → World → Prop} {E : Slots} {S : List Ent} {code : Code} {p : Prop} (hS : ∀ w, Mem C w S → p) (h : p → T P C code Q E S) : T P C code Q E S :=
  ⟨fun a w ha hw => (h (hS w hw)).run a w ha hw⟩
theorem Mem.ownFacts {α : Type} {enc : α → List Value} {M et c : Nat} {A : Option Addr} {ls : List α} {C : Ctx} {S : List Ent} {w : World} (hw : Mem C w S) (hm : entOwn enc M et A c ls ∈ S) : ls.length ≤ c ∧ (A = Option.none → c = 0) :=
  Own.facts (show Own enc M et w 0 (.slice A ls.length c) ls from (hw.holds _ hm).1)
theorem Mem.theBlk {C : Ctx} {S : List Ent} {w : World} {g t : Nat} {cs : Array Value} (hw : Mem C w S) (hm : entBlk g t cs ∈ S) : Blk w g t cs := (hw.holds _ hm).1
theorem Mem.theOwn {α : Type} {enc : α → List Value} {M et c : Nat} {A : Option Addr} {ls : List α} {C : Ctx} {S : List Ent} {w : World} (hw : Mem C w S) (hm : entOwn enc M et A c ls ∈ S) : Own enc M et w 0 (.slice A ls.length c) ls := (hw.holds _ hm).1
end Go.Proofs.Ytaonijdhmgcbjaa

namespace Go.Proofs.Ytaonijdhmgcbjaa
open Go.RowKit

section
variable {P : Program} {C : Ctx} {Q : Exit → Act → World → Prop} {E : Slots} {S S1 R S2 : List Ent}
variable {d ty ty2 ty3 t : Nat} {ps : String} {af : Array Edge} {g0 : Option (Nat × Bool)} {f : Nat} {x y : Operand} {v r : Value}
/-- a call that turns what it is handed, to something of some shape -/
theorem ES_callX [hf : IsFn P f] {X : Type} {xs : List Operand} {vs : List Value} {ats : Array TypeId} (z : X → Value) (S1' : X → List Ent) {S2 : X → List Ent} (hx : evs E xs = some vs)
    (hS : Pull S S1 R) (hA : ∀ x, AppL (S1' x) R (S2 x))
    (hc : ∀ w, Mem C w (S1 ++ R) → Calls P f vs.toArray w fun e w' => ∃ x, e = .returned (z x) ∧ Mem ⟨0, blks S1, w⟩ w' (S1' x)) (hd : Nat.ble (d + 1) C.n = true) :
    ES P C E S ⟨some d, .call ⟨.value (.func f), xs.toArray, ats⟩, ty, ps, af, g0⟩ (fun E' S' => ∃ x, E' = (d, z x) :: E ∧ S' = S2 x) :=
  (ES_call (fun u T => ∃ x, u = z x ∧ T = S2 x) hx (fun w hw => (hc w (hw.pull hS)).mono fun e w' ⟨x, he, hb⟩ => ⟨z x, _, he, (hw.pull hS).frame hb, x, rfl, (hA x).eq⟩) hd).weak
    (by rintro _ _ ⟨_, ⟨x, rfl, rfl⟩, rfl⟩; exact ⟨x, rfl, rfl⟩)
end
/-! Structs without a cell -/
section
variable {P : Program} {C : Ctx} {E : Slots} {S : List Ent} {ty g t s f : Nat} {x : Operand} {cs : Array Value}
theorem Lds.zero [hs : AggOf P s 0] (ad : Addr) : Lds P C S s ad (.agg #[]) := fun w hw => by
  have : (loadCells ad 0).run P w = .ok #[] w := rfl
  simp [loadVar, hs.agg w, hs.size w, this]
end
end Go.Proofs.Ytaonijdhmgcbjaa

namespace Go.Proofs.Ytaonijdhmgcbjaa
open Go.RowKit
theorem QSarm_Zn7 {p : Prop} (h : p := by (first | ((with_reducible apply QS_load); exact rfl; exact Lds.own (enc := Clu.enc) (by first | ((repeat (first | with_reducible exact List.mem_cons_self | with_reducible apply List.mem_cons_of_mem)); done) | (repeat (first | exact List.Mem.head _ | apply List.Mem.tail))) (by intro x; rfl) hj (by rw [hpj, Clu.enc_mk]; rfl)) | ((with_reducible apply QS_load); exact rfl; exact Lds.own0 (enc := Clu.enc) (by first | ((repeat (first | with_reducible exact List.mem_cons_self | with_reducible apply List.mem_cons_of_mem)); done) | (repeat (first | exact List.Mem.head _ | apply List.Mem.tail))) (by intro x; rfl) hj (by rw [hpj, Clu.enc_mk]; rfl)) | ((with_reducible apply QS_load); exact rfl; exact Lds.setAt (enc := Clu.enc) (by first | ((repeat (first | with_reducible exact List.mem_cons_self | with_reducible apply List.mem_cons_of_mem)); done) | (repeat (first | exact List.Mem.head _ | apply List.Mem.tail))) (by intro x; rfl) (by (first | exact hj | (simp only [List.length_set]; exact hj))) (by rw [Clu.enc_mk]; rfl)) | ((with_reducible apply QS_load); exact rfl; exact Lds.setAt0 (enc := Clu.enc) (by first | ((repeat (first | with_reducible exact List.mem_cons_self | with_reducible apply List.mem_cons_of_mem)); done) | (repeat (first | exact List.Mem.head _ | apply List.Mem.tail))) (by intro x; rfl) (by (first | exact hj | (simp only [List.length_set]; exact hj))) (by rw [Clu.enc_mk]; rfl)) | exact QS.auto)) : p := h
theorem ESarm_Zn7 {p : Prop} (h : p := by (first | ((with_reducible apply ES_storeZone); exact rfl; exact rfl; (first | ((repeat (first | with_reducible exact Upd.here _ _ _ | with_reducible apply Upd.there)); done) | (repeat (first | exact Upd.here _ _ _ | apply Upd.there))); exact rfl) | ((with_reducible apply ES_storeOwn (enc := Clu.enc)); exact rfl; exact rfl; (first | ((repeat (first | with_reducible exact Upd.here _ _ _ | with_reducible apply Upd.there)); done) | (repeat (first | exact Upd.here _ _ _ | apply Upd.there))); (intro x; rfl); (first | exact List.getElem?_set_self (by (first | exact hj | (simp only [List.length_set]; exact hj))) | exact hpj1); decide; exact Clu.enc_mk _ _ _ _ _ _ _ _ _ _ _; exact rfl) | exact ES.auto)) : p := h
theorem DRarm0_Zn7 {p R : Prop} (r : R) (h : Rest R → p := by intro r; first | ((with_reducible apply T_draw (id := 19) 1000 (OT.seq [(0, 0), (1, 1), (0, 2), (0, 3), (0, 4), (1, 5), (0, 6), (0, 7), (0, 8), (0, 9), (0, 11), (0, 12), (0, 13), (1, 10), (1, 14), (0, 15), (0, 16)] .nil)); kernel_rfl; exact rfl; kernel_rfl; (repeat (first | with_reducible exact Blind.body | with_reducible apply Blind.seq | with_reducible apply Blind.block | with_reducible assumption)); exact r.out) | ((with_reducible apply T_draw (id := 22) 21 (OT.seq [(0, 0), (0, 1), (0, 2), (0, 3), (0, 4), (0, 5), (0, 7), (0, 10), (0, 11), (0, 12), (0, 13), (0, 15), (1, 6), (1, 8), (0, 9), (1, 14), (0, 18), (0, 19), (0, 20)] (.fork (OT.seq [(2, 16), (0, 17), (3, 21), (0, 22), (0, 23), (0, 24), (3, 25)] .nil) (OT.seq [(3, 21), (3, 16), (0, 17), (0, 22), (0, 23), (0, 24), (3, 25)] .nil)))); kernel_rfl; exact rfl; kernel_rfl; (repeat (first | with_reducible exact Blind.body | with_reducible apply Blind.seq | with_reducible apply Blind.block | with_reducible assumption)); exact r.out) | ((with_reducible apply T_draw (id := 24) 15 (OT.seq [(0, 0), (0, 1), (0, 2), (0, 3), (0, 4), (0, 6), (0, 7), (0, 8), (0, 9), (1, 5), (1, 10), (0, 11), (0, 12), (0, 13), (0, 14), (3, 15)] .nil)); kernel_rfl; exact rfl; kernel_rfl; (repeat (first | with_reducible exact Blind.body | with_reducible apply Blind.seq | with_reducible apply Blind.block | with_reducible assumption)); exact r.out)) : p := h ⟨r⟩
set_option linter.unusedSectionVars false

/-- the clusters, sorted -/
abbrev CluS (cs : List Cl) := {S : List Clu // S.map (·.value) = (keyZ cs).map (fun v : Nat => (v : Int)) ∧ ∀ k ∈ S, ∃ h, k = cluE cs k.value h}
theorem clu_fin {cs : List Cl} (hok : RgOk cs) {M : List Clu} (hM : M.length = (orderZ cs cs.length).length) (hd : ∀ i, i < M.length → ∃ h, M[i]? = some (cluE cs ((orderZ cs cs.length).getD i 0) h)) (x : CluTo M) : x.1.map (·.value) = (keyZ cs).map (fun v : Nat => (v : Int)) ∧ ∀ k ∈ x.1, ∃ h, k = cluE cs k.value h := by
  refine clus_sorted hok (L := M) ⟨M.map (·.rd), by simp, ?_, hM⟩ x.2.1 (cluTo_le x)
  apply List.ext_getElem?
  intro i
  by_cases hi : i < M.length
  · obtain ⟨h, hh⟩ := hd i hi
    have e1 : (orderZ cs cs.length)[i]? = some ((orderZ cs cs.length).getD i 0) := by rw [List.getD_eq_getElem?_getD, List.getElem?_eq_getElem (by omega)]; rfl
    rw [List.getElem?_zipWith, e1, List.getElem?_map, hh]; rfl
  · rw [List.getElem?_eq_none (by omega), List.getElem?_eq_none (by simp; omega)]
section
variable (A : Option Addr) (c : Nat) (cs : List Cl) (w : World) (hl : cs.length ≤ 200) (hA : RdCl w A cs) (hok : RgOk cs)
include hl hA hok
set_option maxRecDepth 100000 in
set_option maxHeartbeats 8000000 in
theorem clusters_any : Calls Try.prog 35 #[.slice A cs.length c] w fun e w' => ∃ x : Option Addr × Nat × CluS cs, e = .returned (.slice x.1 x.2.2.1.length x.2.1) ∧ Mem ⟨0, [], w⟩ w' [entOwn Clu.enc 9 138 x.1 x.2.1 x.2.2.1] := by
  have hb0 := begL_zero hok.toRgAll
  refine calls_T (S := []) [] Try.func35 rfl Try.ntmps35 (by simp) (Mem.nil _) ?_
  repeat' (first | ((first | with_reducible (first | apply TL_q | apply TD_q0 | apply TD_q1 | apply TD_q2 | apply TD_q3) | ((with_reducible (first | apply TD_q0y | apply TD_q1y)); exact rfl; exact rfl; (with_reducible exact rfl))); exact QSarm_Zn7; exact rfl) | ((with_reducible (first | apply TD_e2z | apply TD_e3z | apply TL_e | apply TD_e2 | apply TD_e3)); exact ESarm_Zn7; (first | exact rfl | exact ⟨rfl, rfl, rfl⟩); (first | (rintro _ _ ⟨rfl, rfl⟩) | (rintro _ _ ⟨g, rfl, rfl⟩) | (rintro _ _ ⟨A', c', rfl, rfl⟩)); (try refine ⟨SUB, ?_⟩)) | (refine GG ?_) | (refine GE ?_; (first | (rintro _ _ ⟨rfl, rfl⟩) | (rintro _ _ ⟨g, rfl, rfl⟩) | (rintro _ _ ⟨A', c', rfl, rfl⟩)); (try refine ⟨SUB, ?_⟩)) | ((refine GO2 ?_ ?_) <;> intro h <;> (try (repeat (first | with_reducible (replace h := of_decide_eq_true h) | with_reducible (replace h := of_decide_eq_false h) | with_reducible (replace h := bnt h) | with_reducible (replace h := bnf h) | with_reducible (replace h := Int.not_lt.mp h) | with_reducible (replace h := Int.not_le.mp h) | with_reducible (replace h := band_dec h) | with_reducible (replace h := band_decF h) | with_reducible (replace h := bor_dec h) | with_reducible (replace h := bor_decF h)))) <;> (try (exfalso; first | contradiction | omega))) | (refine GOF ?_ ?_) | fail)
  obtain ⟨g0, rfl⟩ : ∃ x, x = g := ⟨_, rfl⟩
  refine T_mem (S' := [entOwn Clu.enc 9 138 (some ⟨g0, 0, none⟩) 1 [⟨0, -1, -1, ⟨none, 0, 0⟩, 0, -1, -1, false, false⟩]]) (fun w hw => Mem.asOwn (enc := Clu.enc) (M := 9) [⟨0, -1, -1, ⟨none, 0, 0⟩, 0, -1, -1, false, false⟩] (by first | ((repeat (first | with_reducible exact Upd.here _ _ _ | with_reducible apply Upd.there)); done) | (repeat (first | exact Upd.here _ _ _ | apply Upd.there))) rfl (fun _ => rfl) (by decide) hw) ?_
  refine T_loop (X := Nat × Option Addr × Nat) (fun x => [(16, .int .i64 (x.1 : Nat)), (15, .int .i64 cs.length), (14, .slice A cs.length c), (3, .slice x.2.1 (begL cs x.1).length x.2.2), (0, .slice A cs.length c)]) (fun x => [entOwn Clu.enc 9 138 x.2.1 x.2.2 (begL cs x.1)]) (fun x => x.1 ≤ cs.length) (fun x => cs.length - x.1) (0, some ⟨g0, 0, none⟩, 1) (by (try dsimp only); omega) (by (try dsimp only); rw [hb0]; (repeat (first | exact SubE.nil _ | refine SubE.cons rfl ?_))) (fun w' hw => by (try dsimp only); rw [hb0]; exact hw.sel (by (repeat (first | exact Sel.nil _ | (apply Sel.cons; (repeat (first | with_reducible exact Pick.here _ _ | with_reducible apply Pick.there))))))) ?_
  rintro ⟨k, A1, c1⟩ hk
  dsimp only at hk ⊢
  have hbl : (begL cs k).length ≤ k + 1 := by rw [begL_len]; exact orderZ_len cs k
  by_cases hkl : k < cs.length
  · have hbs := begL_succ hok hkl
    have hck := clK_eq hkl
    rw [hck] at hbs
    obtain ⟨b, o, rfl, _⟩ := RdE.open hA (by omega)
    generalize begL cs k = L at *
    by_cases h1 : cs[k].kind = 1
    · rw [if_pos h1] at hbs
      by_cases ht : cs[k].to = -1
      · rw [if_pos ht] at hbs
        repeat' (first | ((first | with_reducible (first | apply TL_q | apply TD_q0 | apply TD_q1 | apply TD_q2 | apply TD_q3) | ((with_reducible (first | apply TD_q0y | apply TD_q1y)); exact rfl; exact rfl; (with_reducible exact rfl))); exact QSarm_Zn7; exact rfl) | ((with_reducible (first | apply TD_e2z | apply TD_e3z | apply TL_e | apply TD_e2 | apply TD_e3)); exact ESarm_Zn7; (first | exact rfl | exact ⟨rfl, rfl, rfl⟩); (first | (rintro _ _ ⟨rfl, rfl⟩) | (rintro _ _ ⟨g, rfl, rfl⟩) | (rintro _ _ ⟨A', c', rfl, rfl⟩)); (try refine ⟨SUB, ?_⟩)) | (refine GG ?_) | (refine GE ?_; (first | (rintro _ _ ⟨rfl, rfl⟩) | (rintro _ _ ⟨g, rfl, rfl⟩) | (rintro _ _ ⟨A', c', rfl, rfl⟩)); (try refine ⟨SUB, ?_⟩)) | ((refine GO2 ?_ ?_) <;> intro h <;> (try (repeat (first | with_reducible (replace h := of_decide_eq_true h) | with_reducible (replace h := of_decide_eq_false h) | with_reducible (replace h := bnt h) | with_reducible (replace h := bnf h) | with_reducible (replace h := Int.not_lt.mp h) | with_reducible (replace h := Int.not_le.mp h) | with_reducible (replace h := band_dec h) | with_reducible (replace h := band_decF h) | with_reducible (replace h := bor_dec h) | with_reducible (replace h := bor_decF h)))) <;> (try (exfalso; first | contradiction | omega))) | (refine GOF ?_ ?_) | ((with_reducible (first | apply TD_e2z | apply TD_e3z | apply TL_e | apply TD_e2 | apply TD_e3)); ((with_reducible apply ES_append1 (enc := Clu.enc) (xx := (⟨cs[k].arg, (k : Int), cs[k].from_, ⟨none, 0, 0⟩, cs[k].arg, 200, cs[k].from_, false, !decide (cs[k].to = -1)⟩ : Clu))); exact rfl; exact rfl; (repeat (first | with_reducible exact List.mem_cons_self | with_reducible apply List.mem_cons_of_mem)); exact rfl; exact fun _ => rfl; exact fun _ => rfl; (intro A' c'; first | ((repeat (first | with_reducible exact Upd.here _ _ _ | with_reducible apply Upd.there)); done) | (repeat (first | exact Upd.here _ _ _ | apply Upd.there))); (omega); decide; exact rfl); (first | exact rfl | exact ⟨rfl, rfl, rfl⟩); (rintro _ _ ⟨A', c', rfl, rfl⟩); (try refine ⟨SUB, ?_⟩)) | fail)
        all_goals (apply At_rounds (k + 1, A', c'); (case hE => (try dsimp only); rw [hbs]; (repeat (first | exact SubE.nil _ | refine SubE.cons rfl ?_))); (case hS => (try dsimp only); rw [hbs]; exact fun w' hw => hw.sel (by (repeat (first | exact Sel.nil _ | (apply Sel.cons; (repeat (first | with_reducible exact Pick.here _ _ | with_reducible apply Pick.there))))))); (case hμ => (try dsimp only); omega); (case hp => (try dsimp only); omega))
      · rw [if_neg ht] at hbs
        repeat' (first | ((first | with_reducible (first | apply TL_q | apply TD_q0 | apply TD_q1 | apply TD_q2 | apply TD_q3) | ((with_reducible (first | apply TD_q0y | apply TD_q1y)); exact rfl; exact rfl; (with_reducible exact rfl))); exact QSarm_Zn7; exact rfl) | ((with_reducible (first | apply TD_e2z | apply TD_e3z | apply TL_e | apply TD_e2 | apply TD_e3)); exact ESarm_Zn7; (first | exact rfl | exact ⟨rfl, rfl, rfl⟩); (first | (rintro _ _ ⟨rfl, rfl⟩) | (rintro _ _ ⟨g, rfl, rfl⟩) | (rintro _ _ ⟨A', c', rfl, rfl⟩)); (try refine ⟨SUB, ?_⟩)) | (refine GG ?_) | (refine GE ?_; (first | (rintro _ _ ⟨rfl, rfl⟩) | (rintro _ _ ⟨g, rfl, rfl⟩) | (rintro _ _ ⟨A', c', rfl, rfl⟩)); (try refine ⟨SUB, ?_⟩)) | ((refine GO2 ?_ ?_) <;> intro h <;> (try (repeat (first | with_reducible (replace h := of_decide_eq_true h) | with_reducible (replace h := of_decide_eq_false h) | with_reducible (replace h := bnt h) | with_reducible (replace h := bnf h) | with_reducible (replace h := Int.not_lt.mp h) | with_reducible (replace h := Int.not_le.mp h) | with_reducible (replace h := band_dec h) | with_reducible (replace h := band_decF h) | with_reducible (replace h := bor_dec h) | with_reducible (replace h := bor_decF h)))) <;> (try (exfalso; first | contradiction | omega))) | (refine GOF ?_ ?_) | ((with_reducible (first | apply TD_e2z | apply TD_e3z | apply TL_e | apply TD_e2 | apply TD_e3)); ((with_reducible apply ES_append1 (enc := Clu.enc) (xx := (⟨cs[k].arg, (k : Int), cs[k].from_, ⟨none, 0, 0⟩, cs[k].arg, cs[k].to, cs[k].from_, false, !decide (cs[k].to = -1)⟩ : Clu))); exact rfl; exact rfl; (repeat (first | with_reducible exact List.mem_cons_self | with_reducible apply List.mem_cons_of_mem)); exact rfl; exact fun _ => rfl; exact fun _ => rfl; (intro A' c'; first | ((repeat (first | with_reducible exact Upd.here _ _ _ | with_reducible apply Upd.there)); done) | (repeat (first | exact Upd.here _ _ _ | apply Upd.there))); (omega); decide; exact rfl); (first | exact rfl | exact ⟨rfl, rfl, rfl⟩); (rintro _ _ ⟨A', c', rfl, rfl⟩); (try refine ⟨SUB, ?_⟩)) | fail)
        all_goals (apply At_rounds (k + 1, A', c'); (case hE => (try dsimp only); rw [hbs]; (repeat (first | exact SubE.nil _ | refine SubE.cons rfl ?_))); (case hS => (try dsimp only); rw [hbs]; exact fun w' hw => hw.sel (by (repeat (first | exact Sel.nil _ | (apply Sel.cons; (repeat (first | with_reducible exact Pick.here _ _ | with_reducible apply Pick.there))))))); (case hμ => (try dsimp only); omega); (case hp => (try dsimp only); omega))
    · rw [if_neg h1] at hbs
      repeat' (first | ((first | with_reducible (first | apply TL_q | apply TD_q0 | apply TD_q1 | apply TD_q2 | apply TD_q3) | ((with_reducible (first | apply TD_q0y | apply TD_q1y)); exact rfl; exact rfl; (with_reducible exact rfl))); exact QSarm_Zn7; exact rfl) | ((with_reducible (first | apply TD_e2z | apply TD_e3z | apply TL_e | apply TD_e2 | apply TD_e3)); exact ESarm_Zn7; (first | exact rfl | exact ⟨rfl, rfl, rfl⟩); (first | (rintro _ _ ⟨rfl, rfl⟩) | (rintro _ _ ⟨g, rfl, rfl⟩) | (rintro _ _ ⟨A', c', rfl, rfl⟩)); (try refine ⟨SUB, ?_⟩)) | (refine GG ?_) | (refine GE ?_; (first | (rintro _ _ ⟨rfl, rfl⟩) | (rintro _ _ ⟨g, rfl, rfl⟩) | (rintro _ _ ⟨A', c', rfl, rfl⟩)); (try refine ⟨SUB, ?_⟩)) | ((refine GO2 ?_ ?_) <;> intro h <;> (try (repeat (first | with_reducible (replace h := of_decide_eq_true h) | with_reducible (replace h := of_decide_eq_false h) | with_reducible (replace h := bnt h) | with_reducible (replace h := bnf h) | with_reducible (replace h := Int.not_lt.mp h) | with_reducible (replace h := Int.not_le.mp h) | with_reducible (replace h := band_dec h) | with_reducible (replace h := band_decF h) | with_reducible (replace h := bor_dec h) | with_reducible (replace h := bor_decF h)))) <;> (try (exfalso; first | contradiction | omega))) | (refine GOF ?_ ?_) | fail)
      all_goals (apply At_rounds (k + 1, A1, c1); (case hE => (try dsimp only); rw [hbs]; (repeat (first | exact SubE.nil _ | refine SubE.cons rfl ?_))); (case hS => (try dsimp only); rw [hbs]; exact fun w' hw => hw.sel (by (repeat (first | exact Sel.nil _ | (apply Sel.cons; (repeat (first | with_reducible exact Pick.here _ _ | with_reducible apply Pick.there))))))); (case hμ => (try dsimp only); omega); (case hp => (try dsimp only); omega))
  · obtain rfl : k = cs.length := by omega
    obtain ⟨M0, hM0⟩ : ∃ M, M = begL cs cs.length := ⟨_, rfl⟩
    have hn0 : M0.length = (orderZ cs cs.length).length := by rw [hM0, begL_len]
    have hM0g : ∀ i, i < M0.length → M0[i]? = some (cluK cs ((orderZ cs cs.length).getD i 0) 0 ⟨none, 0, 0⟩) := fun i hi => by
      rw [hM0]
      unfold begL
      rw [List.getElem?_map, List.getD_eq_getElem?_getD, List.getElem?_eq_getElem (by omega)]; rfl
    rw [← hM0] at hbl ⊢
    obtain ⟨n, hn⟩ : ∃ n, n = M0.length := ⟨_, rfl⟩
    have hpos : 0 < M0.length := by rw [hn0]; unfold orderZ; simp
    rw [← hn] at hbl hn0 hM0g hpos ⊢
    refine T_own (enc := Clu.enc) (ls := M0) (by first | ((repeat (first | with_reducible exact List.mem_cons_self | with_reducible apply List.mem_cons_of_mem)); done) | (repeat (first | exact List.Mem.head _ | apply List.Mem.tail))) (by omega) ?_
    rintro gM rfl
    obtain ⟨vz, hvz⟩ : ∃ v : Nat → Int, v = fun i => (orderZ cs cs.length).getD i 0 := ⟨_, rfl⟩
    have hM0g : ∀ i, i < n → M0[i]? = some (cluK cs (vz i) 0 ⟨none, 0, 0⟩) := fun i hi => by rw [hvz]; exact hM0g i hi
    repeat' (first | ((first | with_reducible (first | apply TL_q | apply TD_q0 | apply TD_q1 | apply TD_q2 | apply TD_q3) | ((with_reducible (first | apply TD_q0y | apply TD_q1y)); exact rfl; exact rfl; (with_reducible exact rfl))); exact QSarm_Zn7; exact rfl) | ((with_reducible (first | apply TD_e2z | apply TD_e3z | apply TL_e | apply TD_e2 | apply TD_e3)); exact ESarm_Zn7; (first | exact rfl | exact ⟨rfl, rfl, rfl⟩); (first | (rintro _ _ ⟨rfl, rfl⟩) | (rintro _ _ ⟨g, rfl, rfl⟩) | (rintro _ _ ⟨A', c', rfl, rfl⟩)); (try refine ⟨SUB, ?_⟩)) | (refine GG ?_) | (refine GE ?_; (first | (rintro _ _ ⟨rfl, rfl⟩) | (rintro _ _ ⟨g, rfl, rfl⟩) | (rintro _ _ ⟨A', c', rfl, rfl⟩)); (try refine ⟨SUB, ?_⟩)) | ((refine GO2 ?_ ?_) <;> intro h <;> (try (repeat (first | with_reducible (replace h := of_decide_eq_true h) | with_reducible (replace h := of_decide_eq_false h) | with_reducible (replace h := bnt h) | with_reducible (replace h := bnf h) | with_reducible (replace h := Int.not_lt.mp h) | with_reducible (replace h := Int.not_le.mp h) | with_reducible (replace h := band_dec h) | with_reducible (replace h := band_decF h) | with_reducible (replace h := bor_dec h) | with_reducible (replace h := bor_decF h)))) <;> (try (exfalso; first | contradiction | omega))) | (refine GOF ?_ ?_) | fail)
    refine T_loop (X := Nat × List Clu) (fun x => [(53, .int .i64 (x.1 : Nat)), (52, .int .i64 n), (3, .slice (some ⟨gM, 0, none⟩) n c1), (0, .slice A cs.length c)]) (fun x => [entOwn Clu.enc 9 138 (some ⟨gM, 0, none⟩) c1 x.2]) (fun x => x.1 ≤ n ∧ x.2.length = n ∧ (∀ i, x.1 ≤ i → i < n → x.2[i]? = some (cluK cs (vz i) 0 ⟨none, 0, 0⟩)) ∧ ∀ i, i < x.1 → ∃ h, x.2[i]? = some (cluE cs (vz i) h)) (fun x => n - x.1) (0, M0) ⟨by (try dsimp only); omega, hn.symm, fun i _ hi => hM0g i hi, fun i hi => absurd hi (Nat.not_lt_zero _)⟩ (by (try dsimp only); (repeat (first | exact SubE.nil _ | refine SubE.cons rfl ?_))) (fun w' hw => by (try dsimp only); exact hw.sel (by (repeat (first | exact Sel.nil _ | (apply Sel.cons; (repeat (first | with_reducible exact Pick.here _ _ | with_reducible apply Pick.there))))))) ?_
    clear hM0 hM0g hn
    rintro ⟨j, M⟩ ⟨hj, hMl, hM1, hM2⟩
    dsimp only at hj hMl hM1 hM2 ⊢
    by_cases hjn : j < n
    · repeat' (first | ((first | with_reducible (first | apply TL_q | apply TD_q0 | apply TD_q1 | apply TD_q2 | apply TD_q3) | ((with_reducible (first | apply TD_q0y | apply TD_q1y)); exact rfl; exact rfl; (with_reducible exact rfl))); exact QSarm_Zn7; exact rfl) | ((with_reducible (first | apply TD_e2z | apply TD_e3z | apply TL_e | apply TD_e2 | apply TD_e3)); exact ESarm_Zn7; (first | exact rfl | exact ⟨rfl, rfl, rfl⟩); (first | (rintro _ _ ⟨rfl, rfl⟩) | (rintro _ _ ⟨g, rfl, rfl⟩) | (rintro _ _ ⟨A', c', rfl, rfl⟩)); (try refine ⟨SUB, ?_⟩)) | (refine GG ?_) | (refine GE ?_; (first | (rintro _ _ ⟨rfl, rfl⟩) | (rintro _ _ ⟨g, rfl, rfl⟩) | (rintro _ _ ⟨A', c', rfl, rfl⟩)); (try refine ⟨SUB, ?_⟩)) | ((refine GO2 ?_ ?_) <;> intro h <;> (try (repeat (first | with_reducible (replace h := of_decide_eq_true h) | with_reducible (replace h := of_decide_eq_false h) | with_reducible (replace h := bnt h) | with_reducible (replace h := bnf h) | with_reducible (replace h := Int.not_lt.mp h) | with_reducible (replace h := Int.not_le.mp h) | with_reducible (replace h := band_dec h) | with_reducible (replace h := band_decF h) | with_reducible (replace h := bor_dec h) | with_reducible (replace h := bor_decF h)))) <;> (try (exfalso; first | contradiction | omega))) | (refine GOF ?_ ?_) | fail)
      refine T_loop (X := Nat × (Option Addr × Nat) × List Int × List Clu) (fun x => [(61, .int .i64 (x.1 : Nat)), (60, .int .i64 cs.length), (59, .slice A cs.length c), (8, .pointer (some ⟨gM, j * 9, none⟩)), (53, .int .i64 (j : Nat)), (52, .int .i64 n), (3, .slice (some ⟨gM, 0, none⟩) n c1), (0, .slice A cs.length c)]) (fun x => [entOwn Clu.enc 9 138 (some ⟨gM, 0, none⟩) c1 x.2.2.2, entOwn intEnc 1 3 x.2.1.1 x.2.1.2 x.2.2.1])
        (fun x => x.1 ≤ cs.length ∧ x.2.2.1.length ≤ x.1 ∧ x.2.2.2.length = n ∧ x.2.2.2[j]? = some (cluK cs (vz j) x.1 ⟨x.2.1.1, x.2.2.1.length, x.2.1.2⟩) ∧ ∀ i, i ≠ j → x.2.2.2[i]? = M[i]?) (fun x => cs.length - x.1) (0, (none, 0), [], M) ⟨by (try dsimp only); omega, by (try dsimp only); exact Nat.le_refl _, hMl, hM1 j (Nat.le_refl _) hjn, fun i _ => rfl⟩ (by (try dsimp only); (repeat (first | exact SubE.nil _ | refine SubE.cons rfl ?_))) (fun w' hw => by (try dsimp only); exact (hw.nilOwn intEnc 1 3).sel (by (repeat (first | exact Sel.nil _ | (apply Sel.cons; (repeat (first | with_reducible exact Pick.here _ _ | with_reducible apply Pick.there))))))) ?_
      rintro ⟨k, ⟨A2, c2⟩, rl, N⟩ ⟨hk, hrl, hNl, hNj, hNi⟩
      dsimp only at hk hrl hNl hNj hNi ⊢
      obtain ⟨v, hv⟩ : ∃ v, v = vz j := ⟨_, rfl⟩
      rw [← hv] at hNj
      have hjN : j < N.length := by omega
      have hj := hjN
      obtain ⟨fr, hfr⟩ : ∃ x, x = if v = 0 then (-1 : Int) else (clK cs (wrBy cs v).toNat).from_ := ⟨_, rfl⟩
      obtain ⟨wr, hwr⟩ : ∃ x, x = wrBy cs v := ⟨_, rfl⟩
      obtain ⟨Z0, hZ0⟩ : ∃ x, x = begZ cs v := ⟨_, rfl⟩
      have hck0 : ∀ k h, cluK cs v k h = ⟨v, wr, fr, h, v, (zoneK cs v Z0 k).zf, (zoneK cs v Z0 k).zl, false, (zoneK cs v Z0 k).some_⟩ := fun k h => by rw [hwr, hfr, hZ0]; rfl
      rw [hck0] at hNj
      by_cases hkl : k < cs.length
      · obtain ⟨b, o, rfl, _⟩ := RdE.open hA (by omega)
        have hck := clK_eq hkl
        have hz1 : zoneK cs v Z0 (k + 1) = readZ cs v (zoneK cs v Z0 k) k := rfl
        have hr1 : isRd cs v k = (decide (cs[k].kind = 2) && (decide (cs[k].to ≠ -1) && decide (cs[k].res = v))) := by unfold isRd; rw [hck]
        have hk1 := hck0 (k + 1)
        clear hck0
        by_cases hrd : cs[k].kind = 2 ∧ cs[k].to ≠ -1 ∧ cs[k].res = v
        · obtain ⟨q1, q2, q3⟩ := hrd
          unfold readZ at hz1
          rw [hr1, decide_eq_true q1, decide_eq_true q2, decide_eq_true q3, if_pos (show (true && (true && true)) = true from rfl), hck] at hz1
          rw [hz1] at hk1
          generalize zoneK cs v Z0 k = Z at *
          obtain ⟨zf, zl, zs⟩ := Z
          dsimp only at hNj hk1
          have hpj : N[j] = _ := Option.some.inj ((List.getElem?_eq_getElem hj).symm.trans hNj)
          have hpj1 := hNj
          repeat' (first | ((first | with_reducible (first | apply TL_q | apply TD_q0 | apply TD_q1 | apply TD_q2 | apply TD_q3) | ((with_reducible (first | apply TD_q0y | apply TD_q1y)); exact rfl; exact rfl; (with_reducible exact rfl))); exact QSarm_Zn7; exact rfl) | ((with_reducible (first | apply TD_e2z | apply TD_e3z | apply TL_e | apply TD_e2 | apply TD_e3)); exact ESarm_Zn7; (first | exact rfl | exact ⟨rfl, rfl, rfl⟩); (first | (rintro _ _ ⟨rfl, rfl⟩) | (rintro _ _ ⟨g, rfl, rfl⟩) | (rintro _ _ ⟨A', c', rfl, rfl⟩)); (try refine ⟨SUB, ?_⟩)) | (refine GG ?_) | (refine GE ?_; (first | (rintro _ _ ⟨rfl, rfl⟩) | (rintro _ _ ⟨g, rfl, rfl⟩) | (rintro _ _ ⟨A', c', rfl, rfl⟩)); (try refine ⟨SUB, ?_⟩)) | ((refine GO2 ?_ ?_) <;> intro h <;> (try (repeat (first | with_reducible (replace h := of_decide_eq_true h) | with_reducible (replace h := of_decide_eq_false h) | with_reducible (replace h := bnt h) | with_reducible (replace h := bnf h) | with_reducible (replace h := Int.not_lt.mp h) | with_reducible (replace h := Int.not_le.mp h) | with_reducible (replace h := band_dec h) | with_reducible (replace h := band_decF h) | with_reducible (replace h := bor_dec h) | with_reducible (replace h := bor_decF h)))) <;> (try (exfalso; first | contradiction | omega))) | (refine GOF ?_ ?_) | (refine DRarm0_Zn7 ?_) | ((with_reducible (first | apply TD_e2z | apply TD_e3z | apply TL_e | apply TD_e2 | apply TD_e3)); ((with_reducible apply ES_append1 (enc := intEnc) (xx := (k : Int))); exact rfl; exact rfl; (repeat (first | with_reducible exact List.mem_cons_self | with_reducible apply List.mem_cons_of_mem)); exact rfl; exact fun _ => rfl; exact fun _ => rfl; (intro A' c'; first | ((repeat (first | with_reducible exact Upd.here _ _ _ | with_reducible apply Upd.there)); done) | (repeat (first | exact Upd.here _ _ _ | apply Upd.there))); (omega); decide; exact rfl); (first | exact rfl | exact ⟨rfl, rfl, rfl⟩); (rintro _ _ ⟨A', c', rfl, rfl⟩); (try refine ⟨SUB, ?_⟩)) | fail)
          all_goals
            apply At_rounds (k + 1, (A', c'), rl ++ [(k : Int)], N.set j ⟨v, wr, fr, ⟨A', (rl ++ [(k : Int)]).length, c'⟩, v, min zf cs[k].to, max zl cs[k].from_, false, true⟩)
            case hE => (try dsimp only); (repeat (first | exact SubE.nil _ | refine SubE.cons rfl ?_))
            case hS => (try dsimp only); exact fun w' hw => by (simp only [List.set_set] at hw; exact hw.sel (by (repeat (first | exact Sel.nil _ | (apply Sel.cons; (repeat (first | with_reducible exact Pick.here _ _ | with_reducible apply Pick.there)))))))
            case hμ => (try dsimp only); omega
            case hp =>
              refine ⟨by (try dsimp only); omega, by (try dsimp only); rw [List.length_append]; simpa using hrl, by (try dsimp only); rw [List.length_set]; exact hNl, ?_, fun i hi => ?_⟩
              · (try dsimp only)
                rw [← hv, hk1]
                exact List.getElem?_set_self hj
              · (try dsimp only)
                rw [List.getElem?_set_ne (fun e => hi e.symm)]
                exact hNi i hi
        · unfold readZ at hz1
          rw [hr1, if_neg (fun e => hrd (by simpa only [Bool.and_eq_true, decide_eq_true_eq] using e))] at hz1
          rw [hz1] at hk1
          generalize zoneK cs v Z0 k = Z at *
          obtain ⟨zf, zl, zs⟩ := Z
          dsimp only at hNj hk1
          have hpj : N[j] = _ := Option.some.inj ((List.getElem?_eq_getElem hj).symm.trans hNj)
          have hpj1 := hNj
          have hne : cs[k].kind = 2 → cs[k].to ≠ -1 → ¬ cs[k].res = v := fun a b e => hrd ⟨a, b, e⟩
          repeat' (first | ((first | with_reducible (first | apply TL_q | apply TD_q0 | apply TD_q1 | apply TD_q2 | apply TD_q3) | ((with_reducible (first | apply TD_q0y | apply TD_q1y)); exact rfl; exact rfl; (with_reducible exact rfl))); exact QSarm_Zn7; exact rfl) | ((with_reducible (first | apply TD_e2z | apply TD_e3z | apply TL_e | apply TD_e2 | apply TD_e3)); exact ESarm_Zn7; (first | exact rfl | exact ⟨rfl, rfl, rfl⟩); (first | (rintro _ _ ⟨rfl, rfl⟩) | (rintro _ _ ⟨g, rfl, rfl⟩) | (rintro _ _ ⟨A', c', rfl, rfl⟩)); (try refine ⟨SUB, ?_⟩)) | (refine GG ?_) | (refine GE ?_; (first | (rintro _ _ ⟨rfl, rfl⟩) | (rintro _ _ ⟨g, rfl, rfl⟩) | (rintro _ _ ⟨A', c', rfl, rfl⟩)); (try refine ⟨SUB, ?_⟩)) | ((refine GO2 ?_ ?_) <;> intro h <;> (try (repeat (first | with_reducible (replace h := of_decide_eq_true h) | with_reducible (replace h := of_decide_eq_false h) | with_reducible (replace h := bnt h) | with_reducible (replace h := bnf h) | with_reducible (replace h := Int.not_lt.mp h) | with_reducible (replace h := Int.not_le.mp h) | with_reducible (replace h := band_dec h) | with_reducible (replace h := band_decF h) | with_reducible (replace h := bor_dec h) | with_reducible (replace h := bor_decF h)))) <;> (try (exfalso; first | contradiction | omega))) | (refine GOF ?_ ?_) | (refine DRarm0_Zn7 ?_) | fail)
          all_goals first
            | (exfalso; exact hne (by assumption) (by assumption) (by assumption))
            | (apply At_rounds (k + 1, (A2, c2), rl, N)
               case hE => (try dsimp only); (repeat (first | exact SubE.nil _ | refine SubE.cons rfl ?_))
               case hS => (try dsimp only); exact fun w' hw => hw.sel (by (repeat (first | exact Sel.nil _ | (apply Sel.cons; (repeat (first | with_reducible exact Pick.here _ _ | with_reducible apply Pick.there))))))
               case hμ => (try dsimp only); omega
               case hp => exact ⟨by (try dsimp only); omega, by (try dsimp only); omega, hNl, by (try dsimp only); rw [← hv, hk1]; exact hNj, hNi⟩)
      · obtain rfl : k = cs.length := by omega
        have hk1 := hck0 cs.length
        have hce : ∀ h, cluE cs v h = ⟨v, wr, fr, h, v, (zoneK cs v Z0 cs.length).zf, (zoneK cs v Z0 cs.length).zl, decide ((zoneK cs v Z0 cs.length).zf < (zoneK cs v Z0 cs.length).zl), (zoneK cs v Z0 cs.length).some_⟩ := fun h => by
          unfold cluE endZ
          rw [hk1, ← hZ0]
        clear hck0 hk1
        generalize zoneK cs v Z0 cs.length = Z at *
        obtain ⟨zf, zl, zs⟩ := Z
        dsimp only at hNj hce
        have hpj : N[j] = _ := Option.some.inj ((List.getElem?_eq_getElem hj).symm.trans hNj)
        have hpj1 := hNj
        repeat' (first | ((first | with_reducible (first | apply TL_q | apply TD_q0 | apply TD_q1 | apply TD_q2 | apply TD_q3) | ((with_reducible (first | apply TD_q0y | apply TD_q1y)); exact rfl; exact rfl; (with_reducible exact rfl))); exact QSarm_Zn7; exact rfl) | ((with_reducible (first | apply TD_e2z | apply TD_e3z | apply TL_e | apply TD_e2 | apply TD_e3)); exact ESarm_Zn7; (first | exact rfl | exact ⟨rfl, rfl, rfl⟩); (first | (rintro _ _ ⟨rfl, rfl⟩) | (rintro _ _ ⟨g, rfl, rfl⟩) | (rintro _ _ ⟨A', c', rfl, rfl⟩)); (try refine ⟨SUB, ?_⟩)) | (refine GG ?_) | (refine GE ?_; (first | (rintro _ _ ⟨rfl, rfl⟩) | (rintro _ _ ⟨g, rfl, rfl⟩) | (rintro _ _ ⟨A', c', rfl, rfl⟩)); (try refine ⟨SUB, ?_⟩)) | ((refine GO2 ?_ ?_) <;> intro h <;> (try (repeat (first | with_reducible (replace h := of_decide_eq_true h) | with_reducible (replace h := of_decide_eq_false h) | with_reducible (replace h := bnt h) | with_reducible (replace h := bnf h) | with_reducible (replace h := Int.not_lt.mp h) | with_reducible (replace h := Int.not_le.mp h) | with_reducible (replace h := band_dec h) | with_reducible (replace h := band_decF h) | with_reducible (replace h := bor_dec h) | with_reducible (replace h := bor_decF h)))) <;> (try (exfalso; first | contradiction | omega))) | (refine GOF ?_ ?_) | (refine DRarm0_Zn7 ?_) | fail)
        all_goals
          apply At_rounds (j + 1, N.set j ⟨v, wr, fr, ⟨A2, rl.length, c2⟩, v, zf, zl, decide (zf < zl), zs⟩)
          case hE => (try dsimp only); (repeat (first | exact SubE.nil _ | refine SubE.cons rfl ?_))
          case hS => (try dsimp only); exact fun w' hw => hw.sel (by (repeat (first | exact Sel.nil _ | (apply Sel.cons; (repeat (first | with_reducible exact Pick.here _ _ | with_reducible apply Pick.there))))))
          case hμ => (try dsimp only); omega
          case hp =>
            refine ⟨by (try dsimp only); omega, by (try dsimp only); rw [List.length_set]; exact hNl, fun i h1 h2 => ?_, fun i h1 => ?_⟩
            · (try dsimp only at h1 ⊢)
              rw [List.getElem?_set_ne (by omega), hNi i (by omega)]
              exact hM1 i (by omega) h2
            · (try dsimp only at h1 ⊢)
              rcases Nat.lt_succ_iff_lt_or_eq.1 h1 with h3 | rfl
              · rw [List.getElem?_set_ne (by omega), hNi i (by omega)]
                exact hM2 i h3
              · refine ⟨⟨A2, rl.length, c2⟩, ?_⟩
                rw [← hv, hce]
                exact List.getElem?_set_self hj
    · obtain rfl : j = n := by omega
      have hfin := fun x : CluTo M => clu_fin hok (M := M) (by rw [hMl]; exact hn0) (fun i hi => by have := hM2 i (by omega); rw [hvz] at this; exact this) x
      have hsrt : ∀ w, Own Clu.enc 9 138 w 0 (.slice (some ⟨gM, 0, none⟩) M.length c1) M → Calls Try.prog 61 #[.slice (some ⟨gM, 0, none⟩) j c1, .func (.func 62) #[] #[]] w fun e w' => ∃ x : CluTo M, e = .returned (.tuple #[]) ∧ Mem ⟨0, blks [entOwn Clu.enc 9 138 (some ⟨gM, 0, none⟩) c1 M], w⟩ w' [entOwn Clu.enc 9 138 (some ⟨gM, 0, none⟩) c1 x.1] := fun w h => by rw [← hMl]; exact clu_sort _ c1 M w h (by omega)
      have hxl : ∀ x : CluTo M, x.1.length = j := fun x => by rw [x.2.1.length_eq, hMl]
      clear hM1 hM2 hvz
      repeat' (first | ((first | with_reducible (first | apply TL_q | apply TD_q0 | apply TD_q1 | apply TD_q2 | apply TD_q3) | ((with_reducible (first | apply TD_q0y | apply TD_q1y)); exact rfl; exact rfl; (with_reducible exact rfl))); exact QSarm_Zn7; exact rfl) | ((with_reducible (first | apply TD_e2z | apply TD_e3z | apply TL_e | apply TD_e2 | apply TD_e3)); exact ESarm_Zn7; (first | exact rfl | exact ⟨rfl, rfl, rfl⟩); (first | (rintro _ _ ⟨rfl, rfl⟩) | (rintro _ _ ⟨g, rfl, rfl⟩) | (rintro _ _ ⟨A', c', rfl, rfl⟩)); (try refine ⟨SUB, ?_⟩)) | (refine GO ?_) | (refine GOE ?_; (first | (rintro _ _ ⟨rfl, rfl⟩) | (rintro _ _ ⟨g, rfl, rfl⟩) | (rintro _ _ ⟨A', c', rfl, rfl⟩))) | ((refine GO2 ?_ ?_) <;> intro h <;> (try (repeat (first | with_reducible (replace h := of_decide_eq_true h) | with_reducible (replace h := of_decide_eq_false h) | with_reducible (replace h := bnt h) | with_reducible (replace h := bnf h) | with_reducible (replace h := Int.not_lt.mp h) | with_reducible (replace h := Int.not_le.mp h) | with_reducible (replace h := band_dec h) | with_reducible (replace h := band_decF h) | with_reducible (replace h := bor_dec h) | with_reducible (replace h := bor_decF h)))) <;> (try (exfalso; first | contradiction | omega))) | ((with_reducible (first | apply TD_e2z | apply TD_e3z | apply TL_e | apply TD_e2 | apply TD_e3)); ((with_reducible apply ES_callX (f := 61) (X := CluTo M) (S1 := [entOwn Clu.enc 9 138 (some ⟨gM, 0, none⟩) c1 M]) (fun _ => .tuple #[]) (fun x => [entOwn Clu.enc 9 138 (some ⟨gM, 0, none⟩) c1 x.1])); exact rfl; ((repeat (first | exact Pull.nil _ | (apply Pull.cons; (repeat (first | with_reducible exact Pick.here _ _ | with_reducible apply Pick.there)))))); (intro x; (try dsimp only); repeat (first | exact AppL.nil _ | apply AppL.cons)); (intro w hw; exact hsrt w (hw.theOwn (by first | ((repeat (first | with_reducible exact List.mem_cons_self | with_reducible apply List.mem_cons_of_mem)); done) | (repeat (first | exact List.Mem.head _ | apply List.Mem.tail))))); exact rfl); (first | exact rfl | exact ⟨rfl, rfl, rfl⟩); (rintro _ _ ⟨x, rfl, rfl⟩); (try refine ⟨SUB, ?_⟩)) | fail)
      (refine At_ret Try.results35 rfl (fun w' hw => ?_))
      exact ⟨(some ⟨gM, 0, none⟩, c1, ⟨x.1, hfin x⟩), by (try dsimp only); rw [hxl x]; rfl, (hw.anyN 0).sel (by (repeat (first | exact Sel.nil _ | (apply Sel.cons; (repeat (first | with_reducible exact Pick.here _ _ | with_reducible apply Pick.there))))))⟩
end
end Go.Proofs.Ytaonijdhmgcbjaa

namespace Go.Proofs.Ytaonijdhmgcbjaa

def idxF {α : Type} (p : α → Bool) (l : List α) : Int := if l.any p = true then (l.findIdx p : Int) else -1
theorem any_take_not {α : Type} {p : α → Bool} {l : List α} {k : Nat} (hk : k < l.length) (h1 : (l.take k).any p = false) (h2 : p l[k] = false) : (l.take (k + 1)).any p = false := by
  rw [List.take_succ_eq_append_getElem hk, List.any_append, h1]; simp [h2]
theorem idxF_at {α : Type} {p : α → Bool} {l : List α} {k : Nat} (hk : k < l.length) (h1 : (l.take k).any p = false) (h2 : p l[k] = true) : idxF p l = (k : Int) := by
  have hany : l.any p = true := List.any_eq_true.2 ⟨_, List.getElem_mem hk, h2⟩
  unfold idxF
  rw [if_pos hany]
  congr 1
  rw [List.findIdx_eq hk]
  refine ⟨h2, fun j hj => ?_⟩
  rw [List.any_eq_false] at h1
  have hm : l[j] ∈ l.take k := by
    rw [List.mem_take_iff_getElem]
    exact ⟨j, by omega, rfl⟩
  exact Bool.eq_false_iff.2 (h1 _ hm)
theorem idxF_no {α : Type} {p : α → Bool} {l : List α} (h : l.any p = false) : idxF p l = -1 := by
  unfold idxF; rw [if_neg (by rw [h]; decide)]
end Go.Proofs.Ytaonijdhmgcbjaa

namespace Go.Proofs.Ytaonijdhmgcbjaa
open Go.RowKit

section
variable (fn : Nat) [IsFn Try.prog fn] (p : Clu → Bool) (cvs : List Value) (A : Option Addr) (c : Nat) (l : List Clu) (w : World) (hA : RdE Clu.enc 9 w A l) (hl : l.length ≤ 9223372036854775807)
variable (hp : ∀ s ∈ l, ∀ w', Below w.heap.size w w' → Calls Try.prog fn (.agg (Clu.enc s).toArray :: cvs).toArray w' fun e w2 => e = .returned (.bool (p s)) ∧ Below w'.heap.size w' w2)
include hA hl hp
set_option maxRecDepth 100000 in
theorem indexClu_any : Calls Try.prog 64 #[.slice A l.length c, .func (.func fn) #[] cvs.toArray] w fun e w' => e = .returned (.int .i64 (idxF p l)) ∧ Below w.heap.size w w' := by
  refine calls_T (S := []) [] Try.func64 rfl Try.ntmps64 (by simp) (Mem.nil _) ?_
  repeat' (first | (refine GO ?_) | (refine GOE ?_; (first | (rintro _ _ ⟨rfl, rfl⟩) | (rintro _ _ ⟨g, rfl, rfl⟩) | (rintro _ _ ⟨A', c', rfl, rfl⟩))) | ((refine GO2 ?_ ?_) <;> intro h <;> (try (repeat (first | with_reducible (replace h := of_decide_eq_true h) | with_reducible (replace h := of_decide_eq_false h) | with_reducible (replace h := bnt h) | with_reducible (replace h := bnf h) | with_reducible (replace h := Int.not_lt.mp h) | with_reducible (replace h := Int.not_le.mp h) | with_reducible (replace h := band_dec h) | with_reducible (replace h := band_decF h) | with_reducible (replace h := bor_dec h) | with_reducible (replace h := bor_decF h)))) <;> (try (exfalso; first | contradiction | omega))) | fail)
  refine T_loop (X := Nat) (fun k => [(8, .int .i64 (k : Nat)), (7, .int .i64 (l.length : Nat)), (1, .func (.func fn) #[] cvs.toArray), (0, .slice A l.length c)]) (fun _ => [])
    (fun k => k ≤ l.length ∧ (l.take k).any p = false) (fun k => l.length - k) 0 ⟨by omega, by simp⟩ (by (repeat (first | exact SubE.nil _ | refine SubE.cons rfl ?_))) (by exact SUBS) ?_
  rintro k ⟨hk, hno⟩
  by_cases hkl : k < l.length
  · obtain ⟨b, o, rfl, _⟩ := RdE.open hA (by omega)
    have hb := fun w' hb => hp l[k] (List.getElem_mem _) w' hb
    generalize hz : p l[k] = z at hb
    repeat' (first | (refine GO ?_) | (refine GOE ?_; (first | (rintro _ _ ⟨rfl, rfl⟩) | (rintro _ _ ⟨g, rfl, rfl⟩) | (rintro _ _ ⟨A', c', rfl, rfl⟩))) | ((refine GO2 ?_ ?_) <;> intro h <;> (try (repeat (first | with_reducible (replace h := of_decide_eq_true h) | with_reducible (replace h := of_decide_eq_false h) | with_reducible (replace h := bnt h) | with_reducible (replace h := bnf h) | with_reducible (replace h := Int.not_lt.mp h) | with_reducible (replace h := Int.not_le.mp h) | with_reducible (replace h := band_dec h) | with_reducible (replace h := band_decF h) | with_reducible (replace h := bor_dec h) | with_reducible (replace h := bor_decF h)))) <;> (try (exfalso; first | contradiction | omega))) | ((with_reducible (first | apply TD_e2z | apply TD_e3z | apply TL_e | apply TD_e2 | apply TD_e3)); ((with_reducible apply ES_callFV (f := fn) (us := []) (cs := cvs) (v := .bool z)); exact rfl; exact rfl; (intro w' hw; exact hb w' (hw.below0 rfl)); exact rfl); (first | exact rfl | exact ⟨rfl, rfl, rfl⟩); (rintro _ _ ⟨rfl, rfl⟩); (try refine ⟨SUB, ?_⟩)) | fail)
    · (refine At_ret Try.results64 rfl (fun w' hw => ?_))
      exact ⟨by rw [idxF_at hkl hno (by rw [hz]; assumption)]; rfl, hw.below0 rfl⟩
    · refine At_rounds (k + 1) ⟨hkl, any_take_not hkl hno (by rw [hz]; assumption)⟩ (by omega) (by (repeat (first | exact SubE.nil _ | refine SubE.cons rfl ?_))) (by exact SUBS)
  · obtain rfl : k = l.length := by omega
    rw [List.take_length] at hno
    repeat' (first | (refine GO ?_) | (refine GOE ?_; (first | (rintro _ _ ⟨rfl, rfl⟩) | (rintro _ _ ⟨g, rfl, rfl⟩) | (rintro _ _ ⟨A', c', rfl, rfl⟩))) | ((refine GO2 ?_ ?_) <;> intro h <;> (try (repeat (first | with_reducible (replace h := of_decide_eq_true h) | with_reducible (replace h := of_decide_eq_false h) | with_reducible (replace h := bnt h) | with_reducible (replace h := bnf h) | with_reducible (replace h := Int.not_lt.mp h) | with_reducible (replace h := Int.not_le.mp h) | with_reducible (replace h := band_dec h) | with_reducible (replace h := band_decF h) | with_reducible (replace h := bor_dec h) | with_reducible (replace h := bor_decF h)))) <;> (try (exfalso; first | contradiction | omega))) | fail)
    (refine At_ret Try.results64 rfl (fun w' hw => ?_))
    exact ⟨by rw [idxF_no hno]; rfl, hw.below0 rfl⟩
end
end Go.Proofs.Ytaonijdhmgcbjaa

namespace Go.Proofs.Ytaonijdhmgcbjaa
open Go.RowKit

theorem flat_div {α : Type} {enc : α → List Value} {M : Nat} (hM : ∀ x, (enc x).length = M) (h0 : 0 < M) : ∀ (l : List α) (j : Nat), (l.flatMap enc)[j]? = (l[j / M]?).bind fun x => (enc x)[j % M]?
  | [], j => by simp
  | x :: l, j => by
    rw [List.flatMap_cons]
    rcases Nat.lt_or_ge j M with h | h
    · rw [List.getElem?_append_left (by rw [hM]; exact h), Nat.div_eq_of_lt h, Nat.mod_eq_of_lt h]
      simp
    · rw [List.getElem?_append_right (by rw [hM]; exact h), hM, flat_div hM h0 l (j - M), Nat.div_eq_sub_div h0 h, ← Nat.mod_eq_sub_mod h]
      simp
theorem Lies.rd {C : Ctx} {S : List Ent} {α : Type} {enc : α → List Value} {M : Nat} {l : List α} {A : Option Addr} {c : Nat} (hR : RdE enc M C.w0 A l) (hF : C.F = []) (hM : ∀ x, (enc x).length = M) (h0 : 0 < M) (hA : A = none → c = 0) : Lies C S (.slice A l.length c) l.length (l.flatMap enc) := by
  cases A with
  | none =>
    have hl : l = [] := by
      cases l with
      | nil => rfl
      | cons x l => obtain ⟨b, o, h, _⟩ := hR.open (by simp); cases h
    subst hl
    exact .inl ⟨rfl, rfl, by rw [hA rfl]; rfl⟩
  | some ad =>
    refine .inr ⟨ad, c, rfl, fun w hw j u hu => ?_⟩
    rw [flat_div hM h0, Option.bind_eq_some_iff] at hu
    obtain ⟨x, hx, hu⟩ := hu
    obtain ⟨b, o, he, hb, hc⟩ := hR (j / M) x hx
    cases he
    have := hc (j % M) u hu
    rw [add_mk]
    refine hw.old hb (by simp [hF]) ?_
    rw [← this]
    congr 2
    have := Nat.div_add_mod j M
    rw [Nat.mul_comm] at this
    omega
/-- a cell that was there -/
theorem Lds.old {P : Program} {C : Ctx} {S : List Ent} {s b k : Nat} {v : Value} [OneCell P s] (hb : b < C.w0.heap.size) (hF : b ∉ C.F) (hc : C.w0.cell? ⟨b, k, none⟩ = some v) : Lds P C S s ⟨b, k, none⟩ v :=
  Lds.one fun w hw => hw.old hb hF hc
end Go.Proofs.Ytaonijdhmgcbjaa
