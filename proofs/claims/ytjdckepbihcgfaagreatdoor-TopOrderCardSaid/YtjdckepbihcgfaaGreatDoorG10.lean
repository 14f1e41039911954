/- Lemmas for the walks (Ins, Obj5). No condition. -/
import Derived.Test.YtjdckepbihcgfaaGreatDoorG09
import Derived.Shelf.Spec.SlicesInsertGrow
import Derived.Test.YtjdckepbihcgfaaGreatDoorG06
set_option linter.unusedSimpArgs false
set_option linter.unusedVariables false
set_option linter.unusedSectionVars false
set_option linter.unnecessarySimpa false
namespace Go.Proofs.YtjdckepbihcgfaaGreatDoor
open Go.RowKit Go.Shelf Go.Lib

def insRho : Ren := ⟨fun n => if n = 21 then 292 else if n = 27 then 295 else if n = 28 then 296 else if n = 35 then 297 else 298,
  fun n => if n = 0 then 0 else if n = 3 then 3 else if n = 4 then 4 else 24, fun n => n⟩
set_option maxRecDepth 100000 in
theorem insLays : Lays2.n21 Tryz.prog insRho where
  mixed := by kernel_rfl
  f21 := by kernel_rfl
  f27 := by kernel_rfl
  f28 := by kernel_rfl
  f35 := by kernel_rfl
  f39 := by kernel_rfl
  t0 := Tryz.underlying0
  a0 := Tryz.isAgg0
  z0 := Tryz.sizeOf0
  v0 := Tryz.zeroValue0
  t3 := Tryz.underlying3
  a3 := Tryz.isAgg3
  z3 := Tryz.sizeOf3
  v3 := Tryz.zeroValue3
  t4 := Tryz.underlying4
  a4 := Tryz.isAgg4
  z4 := Tryz.sizeOf4
  v4 := Tryz.zeroValue4
  t22 := Tryz.underlying24
  a22 := Tryz.isAgg24
  z22 := Tryz.sizeOf24
  v22 := Tryz.zeroValue24
  i3 := by kernel_rfl
section
variable {w : World} {g o : Nat} {cur : Array Value} {e : TypeId} {vs : List Value}
theorem setCells_eq (P : Program) (hg : w.heap[g]? = some (.cells cur e (0, 0))) (hl : o + vs.length ≤ cur.size) (h1 : ∀ u ∈ vs, u.oneCell' = true) :
    w.setCells g o vs = w.setRow g (cur.toList.take o ++ vs ++ cur.toList.drop (o + vs.length)).toArray := by
  have r1 := run_storeCells_at P g o e vs 0 cur w hg (by simpa using hl) h1
  have hc : ∀ j, j < vs.length → (w.cell? ⟨g, o + j, none⟩).isSome = true := fun j hj => by
    simp only [World.cell?, hg]
    simp; omega
  have hf : ∀ j, j < vs.length → w.frozen? ⟨g, o + j, none⟩ = false := fun j hj => by simp [World.frozen?, hg]
  have r2 := run_storeCells_cells (P := P) g o vs 0 w (by simpa using hc) (by simpa using hf) h1
  simp only [Nat.add_zero] at r1 r2
  rw [r1] at r2
  exact (Result.ok.inj r2).2.symm
end
section
variable {C : Ctx} {w : World} {S S' : List Ent} {α : Type} {enc : α → List Value} {M e g c : Nat} {ls ls' : List α}
theorem Mem.rewriteRow (hw : Mem C w S) (hu : Upd S (entOwn enc M e (some ⟨g, 0, Option.none⟩) c ls) (entOwn enc M e (some ⟨g, 0, Option.none⟩) c ls') S') (hM : ∀ x, (enc x).length = M) {cur' : Array Value} (hsz : cur'.size = c * M) (hn : ls'.length ≤ c) (htk : cur'.toList.take (ls'.length * M) = ls'.flatMap enc) : Mem C (w.setRow g cur') S' := by
  have ho : Own enc M e w 0 (.slice (some ⟨g, 0, Option.none⟩) ls.length c) ls := (hw.holds _ hu.mem).1
  obtain ⟨g', cap, cur, hv, hbb, hg, hnc, hcm, hcs, htake⟩ := ho.2.resolve_left (by simp)
  simp only [Value.slice.injEq, Option.some.injEq, Addr.mk.injEq, and_true, true_and] at hv
  obtain ⟨rfl, rfl⟩ := hv
  refine hw.upd hu (Keeps.setRow w g _) (by simp [entOwn, Value.ownBlock]) (fun j hj => ?_) ?_
  · have hj' : some g = some j := hj
    cases hj'
    exact ⟨by simpa using (Array.getElem?_eq_some_iff.1 hg).1, .inl rfl⟩
  · show Own enc M e _ 0 (.slice (some ⟨g, 0, Option.none⟩) ls'.length c) ls'
    exact ⟨flat_len hM _, .inr ⟨g, c, cur', rfl, Nat.zero_le _, setRow_heap w g cur cur' e _ hg, hn, hcm, hsz, htk⟩⟩
end
def insL (ls : List Int) (i : Nat) (a : Int) : List Int := ls.take i ++ a :: ls.drop i
theorem intFlat (ls : List Int) : ls.flatMap intEnc = ls.map (Value.int .i64) := by
  induction ls with
  | nil => rfl
  | cons x ls ih => rw [List.flatMap_cons, ih]; rfl
theorem insL_len {ls : List Int} {i : Nat} {a : Int} (h : i ≤ ls.length) : (insL ls i a).length = ls.length + 1 := by
  simp only [insL, List.length_append, List.length_take, List.length_cons, List.length_drop]; omega
theorem insMap {ls : List Int} {i : Nat} {a : Int} : (insL ls i a).flatMap intEnc = (ls.map (Value.int .i64)).take i ++ Value.int .i64 a :: (ls.map (Value.int .i64)).drop i := by
  rw [intFlat, insL, List.map_append, List.map_cons, List.map_take, List.map_drop]
theorem insMap' {ls : List Int} {i : Nat} {a : Int} : (insL ls i a).map (Value.int .i64) = (ls.map (Value.int .i64)).take i ++ Value.int .i64 a :: (ls.map (Value.int .i64)).drop i := by
  rw [insL, List.map_append, List.map_cons, List.map_take, List.map_drop]
/-- what a shift does to the cells -/
theorem shift1 {xs rest : List Value} {i : Nat} (hi : i < xs.length) : ((xs ++ rest).take (0 + (i + 1)) ++ xs.drop i ++ (xs ++ rest).drop (0 + (i + 1) + (xs.drop i).length)).take (xs.length + 1) = xs.take (i + 1) ++ xs.drop i := by
  have e : (xs ++ rest).take (0 + (i + 1)) = xs.take (i + 1) := by rw [Nat.zero_add, List.take_append_of_le_length (by omega)]
  rw [e, List.take_left' (by simp; omega)]
theorem shift2 {xs tail : List Value} {i : Nat} {v : Value} (hi : i < xs.length) : ((xs.take (i + 1) ++ xs.drop i ++ tail).take (0 + i) ++ [v] ++ (xs.take (i + 1) ++ xs.drop i ++ tail).drop (0 + i + [v].length)).take (xs.length + 1) = xs.take i ++ v :: xs.drop i := by
  have e1 : (xs.take (i + 1) ++ xs.drop i ++ tail).take (0 + i) = xs.take i := by
    rw [Nat.zero_add, List.append_assoc, List.take_append_of_le_length (by simp; omega), List.take_take, Nat.min_eq_left (by omega)]
  have e2 : (xs.take (i + 1) ++ xs.drop i ++ tail).drop (0 + i + [v].length) = xs.drop i ++ tail := by
    rw [Nat.zero_add, List.length_singleton, List.append_assoc, List.drop_left' (by simp; omega)]
  rw [e1, e2, ← List.append_assoc, List.take_left' (by simp; omega)]
  simp
theorem zeros_len (k : Nat) : (Builtin.zeroCells (Value.int .i64 0).cells k).size = k := by simp [Builtin.zeroCells, Value.cells]
theorem zeros_list (k : Nat) : (Builtin.zeroCells (Value.int .i64 0).cells k).toList = List.replicate k (.int .i64 0) := by
  apply List.ext_getElem?
  intro i
  rw [List.getElem?_replicate]
  by_cases h : i < k
  · rw [if_pos h]
    simp [Builtin.zeroCells, Value.cells, h, Nat.mod_one]
  · rw [if_neg h, List.getElem?_eq_none (by simp [zeros_len]; omega)]
theorem newRow_memA {w : World} {F : List Nat} {l : List Int} {cap : Nat} {cs : Array Value} (hn : l.length ≤ cap) (hm : cap ≤ maxLen) (hsz : cs.size = cap) (htk : cs.toList.take l.length = l.map (Value.int .i64)) :
    Mem ⟨0, F, w⟩ (w.alloc (.cells cs 3)) [entOwn intEnc 1 3 (some ⟨w.heap.size, 0, none⟩) cap l] := by
  refine (Mem.nil ⟨0, F, w⟩).alloc (.cells cs 3) (e := entOwn intEnc 1 3 (some ⟨w.heap.size, 0, none⟩) cap l) (fun k hk => hk) ?_
  show Own intEnc 1 3 _ 0 (.slice (some ⟨w.heap.size, 0, none⟩) l.length cap) l
  refine ⟨flat_len (M := 1) (enc := intEnc) (fun _ => rfl) l, .inr ⟨w.heap.size, cap, cs, rfl, Nat.zero_le _, ?_, hn, hm, by omega, by rw [Nat.mul_one, htk, intFlat]⟩⟩
  have := Blk.new w 3 cs
  exact this
/-- a row made anew -/
theorem newRow_mem {w : World} {F : List Nat} {l : List Int} {cap : Nat} {cs : Array Value} (hn : l.length ≤ cap) (hm : cap ≤ maxLen) (hsz : cs.size = cap) (htk : cs.toList.take l.length = l.map (Value.int .i64)) :
    Mem ⟨0, F, w⟩ (w.drew.alloc (.cells cs 3)) [entOwn intEnc 1 3 (some ⟨w.heap.size, 0, none⟩) cap l] := by
  refine ((Mem.nil ⟨0, F, w⟩).drew).alloc (.cells cs 3) (e := entOwn intEnc 1 3 (some ⟨w.heap.size, 0, none⟩) cap l) (fun k hk => hk) ?_
  show Own intEnc 1 3 _ 0 (.slice (some ⟨w.heap.size, 0, none⟩) l.length cap) l
  refine ⟨flat_len (M := 1) (enc := intEnc) (fun _ => rfl) l, .inr ⟨w.heap.size, cap, cs, rfl, Nat.zero_le _, ?_, hn, hm, by omega, by rw [Nat.mul_one, htk, intFlat]⟩⟩
  have := Blk.new w.drew 3 cs
  exact this
set_option maxHeartbeats 1000000 in
theorem insert_any (w : World) (A : Option Addr) (c : Nat) (ls : List Int) (i vb vc : Nat) (a : Int) (ho : Own intEnc 1 3 w 0 (.slice A ls.length c) ls) (hb : Blk w vb 3 #[.int .i64 a])
    (hne : (Value.slice A ls.length c).ownBlock ≠ some vb) (hi : i ≤ ls.length) (hl : ls.length ≤ 50) :
    Calls Tryz.prog 292 #[.slice A ls.length c, .int .i64 i, .slice (some ⟨vb, 0, none⟩) 1 vc] w fun e w' =>
      ∃ x : Option Addr × Nat, e = .returned (.slice x.1 (insL ls i a).length x.2) ∧ Mem ⟨0, blks [entOwn intEnc 1 3 A c ls], w⟩ w' [entOwn intEnc 1 3 x.1 x.2 (insL ls i a)] := by
  have hvs : ∀ j v, ([Value.int .i64 a] : List Value)[j]? = some v → w.cell? ⟨vb, 0 + j, none⟩ = some v := fun j v hj => by
    rw [Nat.zero_add, hb.cell]; simpa using hj
  have h1v : ∀ v ∈ ([Value.int .i64 a] : List Value), v.oneCell' = true := fun v hv => by
    rw [List.mem_singleton] at hv; subst hv; rfl
  have h1c : ∀ v ∈ ls.map (Value.int .i64), v.oneCell' = true := fun v hv => by
    obtain ⟨x, _, rfl⟩ := List.mem_map.1 hv; rfl
  have hbase : Mem ⟨0, blks [entOwn intEnc 1 3 A c ls], w⟩ w [entOwn intEnc 1 3 A c ls] := by
    refine ⟨Keeps.refl _ _, fun e he => ?_, by simp⟩
    rw [List.mem_singleton] at he
    subst he
    exact ⟨ho, fun g hg => ⟨(World.ownsRow.lt ho g hg).2, .inl (by simp [blks, (entOwn intEnc 1 3 A c ls).hfin, hg])⟩⟩
  have hlen := insL_len (a := a) hi
  rcases ho.2 with ⟨hv, h0⟩ | ⟨g, cap, cur, hv, hbb, hg, hnc, hcm, hcs, htake⟩
  · -- the nil slice
    have hls : ls = [] := List.length_eq_zero_iff.1 h0
    subst hls
    simp only [Value.slice.injEq] at hv
    obtain ⟨rfl, -, rfl⟩ := hv
    obtain rfl : i = 0 := by simpa using hi
    refine (Any2.slices_Insert_int_end_grow insLays none 0 0 vb 0 1 vc [] [.int .i64 a] w (by omega) (by omega) (by omega) (by omega) rfl rfl (fun _ => rfl) (fun a h => by cases h) hvs h1v).mono ?_
    rintro e w' ⟨rfl, rfl⟩
    have hG := grownCap_ge w (0 + 1) 0 (insRho.t 3)
    have hGm := grownCap_le_maxLen w (0 + 1) 0 (insRho.t 3) (by unfold maxLen; omega)
    generalize grownCap w (0 + 1) 0 (insRho.t 3) = G at *
    refine ⟨(some ⟨w.heap.size, 0, none⟩, G), rfl, newRow_mem (l := [a]) (by simpa using hG) hGm ?_ ?_⟩
    · simp [zeros_len]; omega
    · simp
  · simp only [Value.slice.injEq] at hv
    obtain ⟨rfl, -, rfl⟩ := hv
    rw [Nat.mul_one] at htake hcs
    rw [intFlat] at htake
    have hvbg : vb ≠ g := fun e => hne (by subst e; rfl)
    have hml : ls.length ≤ cur.size := by omega
    have hcl : (ls.map (Value.int .i64)).length = ls.length := by simp
    have hcell : ∀ j, w.cell? ⟨g, 0 + j, none⟩ = cur[j]? := fun j => by
      rw [Nat.zero_add]
      simp [World.cell?, hg]
    have hcells : ∀ j v, (ls.map (Value.int .i64))[j]? = some v → w.cell? ⟨g, 0 + j, none⟩ = some v := fun j v hj => by
      rw [hcell, ← hj, ← htake, List.getElem?_take]
      have : j < ls.length := by have := (List.getElem?_eq_some_iff.1 hj).1; simpa using this
      rw [if_pos this]; simp
    have hfz : ∀ j, w.frozen? ⟨g, j, none⟩ = false := fun j => by simp [World.frozen?, hg]
    have hg' : w.drew.heap[g]? = some (.cells cur 3 (0, 0)) := hg
    have hhd : ∀ k, k ≤ cur.size → (cur.toList.take k).length = k := fun k hk => by simp; omega
    have hdnil : (ls.map (Value.int .i64)).drop ls.length = [] := List.drop_eq_nil_of_le (by simp)
    by_cases hend : i = ls.length
    · subst hend
      by_cases hroom : ls.length + 1 ≤ c
      · refine (Any2.slices_Insert_int_end_room insLays g 0 ls.length c vb 0 1 vc [.int .i64 a] w (by omega) hroom (by unfold maxLen at hcm; omega) rfl (fun j hj => by
          simp only [World.cell?, hg]; simp; omega) (fun j hj => hfz _) hvs h1v).mono ?_
        rintro e w' ⟨rfl, rfl⟩
        rw [setCells_eq Tryz.prog hg (by simp; omega) h1v]
        refine ⟨(some ⟨g, 0, none⟩, c), by rw [hlen], hbase.rewriteRow (Upd.here _ _ _) (fun _ => rfl) ?_ (by omega) ?_⟩
        · simp; omega
        · rw [Nat.mul_one, hlen, insMap, List.take_of_length_le (l := ls.map (Value.int .i64)) (by simp), hdnil, Nat.zero_add, htake]
          rw [List.toList_toArray, List.take_left' (by simp)]
      · refine (Any2.slices_Insert_int_end_grow insLays (some ⟨g, 0, none⟩) ls.length c vb 0 1 vc (ls.map (Value.int .i64)) [.int .i64 a] w (by omega) hnc (by omega) (by omega) hcl rfl (fun h => by cases h) (fun ad h j v hj => by
          cases h
          rw [add_mk]; exact hcells j v hj) hvs h1v).mono ?_
        rintro e w' ⟨rfl, rfl⟩
        have hG := grownCap_ge w (ls.length + 1) c (insRho.t 3)
        have hGm := grownCap_le_maxLen w (ls.length + 1) c (insRho.t 3) (by unfold maxLen; omega)
        generalize grownCap w (ls.length + 1) c (insRho.t 3) = G at *
        refine ⟨(some ⟨w.heap.size, 0, none⟩, G), by rw [hlen], newRow_mem (by omega) hGm ?_ ?_⟩
        · simp [zeros_len]; omega
        · rw [hlen, insMap', List.take_of_length_le (l := ls.map (Value.int .i64)) (by simp), List.drop_eq_nil_of_le (by simp)]
          simp only [Array.toList_append]
          rw [List.take_left' (by simp)]
    · by_cases hroom : ls.length + 1 ≤ c
      · refine (Any2.slices_Insert_int_shift insLays g 0 ls.length c i vb 0 1 vc (ls.map (Value.int .i64)) [.int .i64 a] w (by omega) (by omega) hroom (by unfold maxLen at hcm; omega) hvbg hcl rfl hcells (fun j hj => by
          rw [hcell]; simp; omega) (fun j hj => hfz _) hvs h1c h1v 3 3 1 cur.size (by
          unfold Blk at hb; simp [World.shape?, hb]) (by simp [World.shape?, hg]) (by omega) (hb.frozen _) (hb.frozen _)).mono ?_
        rintro e w' ⟨rfl, rfl⟩
        -- the items behind i, one place on
        obtain ⟨rest, hrest⟩ : ∃ rest, cur.toList = ls.map (Value.int .i64) ++ rest := ⟨cur.toList.drop ls.length, by rw [← htake, List.take_append_drop]⟩
        have hrl : ls.length + rest.length = c := by
          have := congrArg List.length hrest
          simp at this; omega
        have hmi : (insL ls i a).flatMap intEnc = (ls.map (Value.int .i64)).take i ++ Value.int .i64 a :: (ls.map (Value.int .i64)).drop i := insMap
        have hmj : (ls.take (i + 1) ++ ls.drop i).flatMap intEnc = (ls.map (Value.int .i64)).take (i + 1) ++ (ls.map (Value.int .i64)).drop i := by
          rw [intFlat, List.map_append, List.map_take, List.map_drop]
        have hil : i < (ls.map (Value.int .i64)).length := by rw [hcl]; omega
        have hdl : ((ls.map (Value.int .i64)).drop i).length = ls.length - i := by simp
        have h1d : ∀ v ∈ (ls.map (Value.int .i64)).drop i, v.oneCell' = true := fun v hv => h1c v (List.mem_of_mem_drop hv)
        rw [setCells_eq Tryz.prog (w := w.drew) (o := 0 + (i + 1)) hg' (by rw [hdl]; omega) h1d, hrest]
        have hj : (ls.take (i + 1) ++ ls.drop i).length = ls.length + 1 := by simp; omega
        generalize hxs : ls.map (Value.int .i64) = xs at *
        obtain ⟨c1, hc1⟩ : ∃ c1, c1 = (xs ++ rest).take (0 + (i + 1)) ++ xs.drop i ++ (xs ++ rest).drop (0 + (i + 1) + (xs.drop i).length) := ⟨_, rfl⟩
        have hc1l : c1.length = c := by rw [hc1]; simp; omega
        have hc1t : c1.take (xs.length + 1) = xs.take (i + 1) ++ xs.drop i := by rw [hc1]; exact shift1 hil
        obtain ⟨tail, htail⟩ : ∃ tail, c1 = xs.take (i + 1) ++ xs.drop i ++ tail := ⟨c1.drop (xs.length + 1), by rw [← hc1t, List.take_append_drop]⟩
        rw [← hc1]
        have hw1 : Mem ⟨0, blks [entOwn intEnc 1 3 (some ⟨g, 0, none⟩) c ls], w⟩ (w.drew.setRow g c1.toArray) [entOwn intEnc 1 3 (some ⟨g, 0, none⟩) c (ls.take (i + 1) ++ ls.drop i)] := by
          refine hbase.drew.rewriteRow (Upd.here _ _ _) (fun _ => rfl) (by simp [hc1l]) (by omega) ?_
          rw [Nat.mul_one, hj, hmj, List.toList_toArray, ← hc1t, hcl]
        have hg1 : (w.drew.setRow g c1.toArray).heap[g]? = some (.cells c1.toArray 3 (0, 0)) := setRow_heap w.drew g cur c1.toArray _ _ hg'
        rw [setCells_eq Tryz.prog hg1 (by simp; omega) h1v]
        refine ⟨(some ⟨g, 0, none⟩, c), by rw [hlen], hw1.rewriteRow (Upd.here _ _ _) (fun _ => rfl) ?_ (by omega) ?_⟩
        · simp; omega
        · rw [Nat.mul_one, hlen, hmi, List.toList_toArray, List.toList_toArray, htail, ← hcl]
          exact shift2 hil
      · refine (Any2.slices_Insert_int_grow insLays g 0 ls.length c i vb 0 1 vc (ls.map (Value.int .i64)) [.int .i64 a] w (by omega) (by omega) hnc (by omega) (by omega) hcl rfl hcells hvs h1c h1v).mono ?_
        rintro e w' ⟨rfl, rfl⟩
        have hG := grownCap_ge w (ls.length + 1) c (insRho.t 3)
        have hGm := grownCap_le_maxLen w (ls.length + 1) c (insRho.t 3) (by unfold maxLen; omega)
        generalize grownCap w (ls.length + 1) c (insRho.t 3) = G at *
        have hil : i < (ls.map (Value.int .i64)).length := by rw [hcl]; omega
        have hdl : ((ls.map (Value.int .i64)).drop i).length = ls.length - i := by simp
        have h1d : ∀ v ∈ (ls.map (Value.int .i64)).drop i, v.oneCell' = true := fun v hv => h1c v (List.mem_of_mem_drop hv)
        obtain ⟨c0, hc0⟩ : ∃ c0 : List Value, c0 = (ls.map (Value.int .i64)).take i ++ (List.replicate (ls.length + 1 - i) (.int .i64 0) ++ List.replicate (G - (ls.length + 1)) (.int .i64 0)) := ⟨_, rfl⟩
        have hrow : ((ls.map (Value.int .i64)).take i).toArray ++ Builtin.zeroCells (Value.int .i64 0).cells (ls.length + 1 - i) ++ Builtin.zeroCells (Value.int .i64 0).cells (G - (ls.length + 1)) = c0.toArray := by
          apply Array.toList_inj.1
          simp only [Array.toList_append, zeros_list, hc0, List.append_assoc]
        rw [hrow, show insRho.t 3 = 3 from rfl]
        have hc0l : c0.length = G := by rw [hc0]; simp; omega
        have hw0 : Mem ⟨0, blks [entOwn intEnc 1 3 (some ⟨g, 0, none⟩) c ls], w⟩ (w.alloc (.cells c0.toArray 3)).drew [entOwn intEnc 1 3 (some ⟨w.heap.size, 0, none⟩) G (ls.take i ++ List.replicate (ls.length + 1 - i) 0)] := by
          refine (newRow_memA (l := ls.take i ++ List.replicate (ls.length + 1 - i) 0) (by simp; omega) hGm (by simp [hc0l]) ?_).drew
          rw [hc0, List.toList_toArray, ← List.append_assoc, List.take_left' (by simp)]
          simp
        have hg0 : (w.alloc (.cells c0.toArray 3)).drew.heap[w.heap.size]? = some (.cells c0.toArray 3 (0, 0)) := Blk.new w 3 c0.toArray
        rw [setCells_eq Tryz.prog (o := i) hg0 (by simp [hc0l]; omega) h1v]
        obtain ⟨c1, hc1⟩ : ∃ c1 : List Value, c1 = c0.take i ++ [.int .i64 a] ++ c0.drop (i + 1) := ⟨_, rfl⟩
        have hc1l : c1.length = G := by rw [hc1]; simp; omega
        have hc1e : c1 = (ls.map (Value.int .i64)).take i ++ [.int .i64 a] ++ (List.replicate (ls.length - i) (.int .i64 0) ++ List.replicate (G - (ls.length + 1)) (.int .i64 0)) := by
          rw [hc1, hc0, List.take_left' (by simp; omega)]
          congr 1
          rw [List.drop_append, List.drop_eq_nil_of_le (by simp; omega), List.nil_append, show i + 1 - ((ls.map (Value.int .i64)).take i).length = 1 by simp; omega, show ls.length + 1 - i = (ls.length - i) + 1 by omega, List.replicate_succ]
          rfl
        have hw1 : Mem ⟨0, blks [entOwn intEnc 1 3 (some ⟨g, 0, none⟩) c ls], w⟩ (((w.alloc (.cells c0.toArray 3)).drew.setRow w.heap.size c1.toArray).drew) [entOwn intEnc 1 3 (some ⟨w.heap.size, 0, none⟩) G (ls.take i ++ [a] ++ List.replicate (ls.length - i) 0)] := by
          refine (hw0.rewriteRow (Upd.here _ _ _) (fun _ => rfl) (by simp [hc1l]) (by simp; omega) ?_).drew
          rw [Nat.mul_one, hc1e, List.toList_toArray, ← List.append_assoc, List.take_left' (by simp), intFlat]
          simp
        have hg1 : (((w.alloc (.cells c0.toArray 3)).drew.setRow w.heap.size c1.toArray).drew).heap[w.heap.size]? = some (.cells c1.toArray 3 (0, 0)) := setRow_heap _ w.heap.size c0.toArray c1.toArray _ _ hg0
        rw [show (c0.toArray.toList.take i ++ [Value.int .i64 a] ++ c0.toArray.toList.drop (i + [Value.int .i64 a].length)).toArray = c1.toArray by rw [hc1]; rfl]
        rw [setCells_eq Tryz.prog (o := i + 1) hg1 (by simp [hc1l]; omega) h1d]
        refine ⟨(some ⟨w.heap.size, 0, none⟩, G), by rw [hlen], hw1.rewriteRow (Upd.here _ _ _) (fun _ => rfl) ?_ (by omega) ?_⟩
        · simp; omega
        · rw [Nat.mul_one, hlen, insMap, List.toList_toArray, List.toList_toArray]
          have e1 : c1.take (i + 1) = (ls.map (Value.int .i64)).take i ++ [.int .i64 a] := by rw [hc1e, List.take_left' (by simp; omega)]
          rw [e1, List.take_left' (by simp; omega)]
          simp
end Go.Proofs.YtjdckepbihcgfaaGreatDoor

namespace Go.Proofs.YtjdckepbihcgfaaGreatDoor
open Go.RowKit

section
variable {P : Program} {C : Ctx} {Q : Exit → Act → World → Prop} {E : Slots} {S S' : List Ent} {l rest : List Oper}
variable {t m e bytes d g p n c i j q cy k : Nat} {x y u : Operand} {v z : Value} {ty : TypeId} {g0 : Option (Nat × Bool)} {ps : String} {af : Array Edge} {ad : Addr} {ls : List Int}
theorem QS_sliceLH [hs : SliceOf P t e m] {k1 k2 : IntKind} {l h : Nat} (hx : evo E x = some (.slice (some ⟨g, p, none⟩) n c)) (hy : evo E y = some (.int k1 (l : Nat))) (hu : evo E u = some (.int k2 (h : Nat))) (hl : l ≤ h) (hh : h ≤ c) :
    QS P C E S (.slice t x (some y) (some u) none) ty (.slice (some ⟨g, if c = l then p else p + l * m, none⟩) (h - l) (c - l)) :=
  QS.of (fun a w ha _ => by
    have he : P.elem t = e := by simp [Program.elem, hs.und]
    have hu' : P.underlying t = some (.slice (P.elem t)) := by rw [he]; exact hs.und
    have hr := run_slice_lh (P := P) (w := w) t (some ⟨g, p, none⟩) n c hu' k1 k2 (l : Int) (h : Int) (by omega) (by omega) (by omega)
    rw [he, hs.size w] at hr
    simp only [Result.andThen_ok, Int.toNat_natCast] at hr
    have hv : sliced (some ⟨g, p, none⟩) l h c m = .slice (some ⟨g, if c = l then p else p + l * m, none⟩) (h - l) (c - l) := by
      unfold sliced
      split <;> simp [add_mk]
    rw [hv] at hr
    simp [execOp, ha.evo hx, ha.evo hy, ha.evo hu, run_sliceAt_slice (P := P) (w := w) t _ _ _ _ hu', hr])
theorem QS_slice3 [hs : SliceOf P t e m] {k1 k2 k3 : IntKind} {r : Operand} {l h b : Int} (hx : evo E x = some (.slice (some ⟨g, p, none⟩) n c)) (hy : evo E y = some (.int k1 l)) (hu : evo E u = some (.int k2 h)) (hr : evo E r = some (.int k3 b)) (hl : 0 ≤ l ∧ l ≤ h) (hh : h ≤ b) (hb : b ≤ c) :
    QS P C E S (.slice t x (some y) (some u) (some r)) ty (sliced (some ⟨g, p, none⟩) l.toNat h.toNat b.toNat m) :=
  QS.of (fun a w ha _ => by
    have he : P.elem t = e := by simp [Program.elem, hs.und]
    have hu' : P.underlying t = some (.slice (P.elem t)) := by rw [he]; exact hs.und
    have hrr := run_slice_lhm (P := P) (w := w) t (some ⟨g, p, none⟩) n c hu' k1 k2 k3 l h b hl.1 hl.2 hh hb
    rw [he, hs.size w] at hrr
    simp only [Result.andThen_ok] at hrr
    simp [execOp, ha.evo hx, ha.evo hy, ha.evo hu, ha.evo hr, run_sliceAt_slice (P := P) (w := w) t _ _ _ _ hu', hrr])
theorem intOnes (l : List Int) : ∀ v ∈ l.flatMap intEnc, v.oneCell' = true := fun v hv => by
  rw [intFlat] at hv
  obtain ⟨x, _, rfl⟩ := List.mem_map.1 hv; rfl
/-- the end of a row of one's own, laid over its middle -/
theorem ES_appendIn [hs : SliceOf P t e 1] [hi : InfoOf P e z 1 bytes] (hx : evo E x = some (.slice (some ⟨g, 0, none⟩) i c)) (hy : evo E y = some (.slice (some ad) q cy))
    (hq : q = ls.length - j) (hij : i ≤ j) (hj : j ≤ ls.length) (had : j < ls.length → ad = ⟨g, j, none⟩)
    (hu : Upd S (entOwn intEnc 1 e (some ⟨g, 0, none⟩) c ls) (entOwn intEnc 1 e (some ⟨g, 0, none⟩) c (ls.take i ++ ls.drop j)) S') (hd : Nat.ble (d + 1) C.n = true) :
    ES P C E S ⟨some d, .call ⟨.builtin .append, #[x, y], #[t, t]⟩, ty, ps, af, g0⟩ (fun E' T => E' = (d, .slice (some ⟨g, 0, none⟩) (i + q) c) :: E ∧ T = S') := by
  refine (ES_core (fun u T => u = .slice (some ⟨g, 0, none⟩) (i + q) c ∧ T = S') (fun a w ha hw => ?_) hd).weak (by rintro _ _ ⟨_, ⟨rfl, rfl⟩, rfl⟩; exact ⟨rfl, rfl⟩)
  have ho : Own intEnc 1 e w 0 (.slice (some ⟨g, 0, none⟩) ls.length c) ls := (hw.holds _ hu.mem).1
  obtain ⟨g', cap, cur, hv, hbb, hg, hnc, hcm, hcs, htake⟩ := ho.2.resolve_left (by simp)
  simp only [Value.slice.injEq, Option.some.injEq, Addr.mk.injEq, and_true, true_and] at hv
  obtain ⟨rfl, rfl⟩ := hv
  rw [Nat.mul_one] at hcs htake
  rw [intFlat] at htake
  obtain ⟨ti, hi0, hi1, hi2, hi3⟩ := hi.parts
  have hql : (ls.drop j).length = q := by rw [List.length_drop, hq]
  have hn : ((ls.drop j).flatMap intEnc).length = q := by rw [intFlat, List.length_map, hql]
  have hcell : ∀ k, w.cell? ⟨g, k, none⟩ = cur[k]? := fun k => by simp [World.cell?, hg]
  have hread : ∀ k u, ((ls.drop j).flatMap intEnc)[k]? = some u → w.cell? (ad.add k) = some u := fun k u hk => by
    have hkq : k < q := by rw [← hn]; exact (List.getElem?_eq_some_iff.1 hk).1
    rw [had (by omega), add_mk, hcell]
    rw [intFlat, List.getElem?_map, List.getElem?_drop, ← List.getElem?_map, ← htake, List.getElem?_take] at hk
    rw [if_pos (by omega)] at hk
    rw [← hk]; simp
  have hr := run_append_room_cells (P := P) (w := w) t ty e ti hs.und hi0 g 0 i c ad q cy ((ls.drop j).flatMap intEnc) (by rw [hi2, hn, Nat.mul_one]) hread (intOnes _) (by omega)
    (fun k hk => by rw [hi2, hcell]; simp; omega) (fun k hk => by simp [World.frozen?, hg])
  rw [hi2, Nat.zero_add, Nat.mul_one, setCells_eq P hg (by rw [hn]; omega) (intOnes _)] at hr
  refine ⟨_, w.setRow g (cur.toList.take i ++ (ls.drop j).flatMap intEnc ++ cur.toList.drop (i + ((ls.drop j).flatMap intEnc).length)).toArray, S', ?_, hw.rewriteRow hu (fun _ => rfl) ?_ ?_ ?_, rfl, rfl⟩
  · simp [execOp, resolve, invoke, builtin, ha.evo hx, ha.evo hy, hr]
  · simp [hn]; omega
  · simp; omega
  · have hil : (ls.take i ++ ls.drop j).length = i + q := by rw [List.length_append, List.length_take, hql]; omega
    have e1 : cur.toList.take i = (ls.take i).map (Value.int .i64) := by
      rw [List.map_take, ← htake, List.take_take, Nat.min_eq_left (by omega)]
    rw [Nat.mul_one, hil, List.toList_toArray, e1, List.take_left' (by simp [hn]; omega), intFlat, intFlat, List.map_append]
/-- clear, behind what is known of a row of one's own -/
theorem ES_clearSpare [hs : SliceOf P t e 1] [hi : InfoOf P e z 1 bytes] [hz : ZeroOf P e z] (hx : evo E x = some (.slice (some ⟨g, p, none⟩) n k)) (hm : entOwn intEnc 1 e (some ⟨g, 0, none⟩) c ls ∈ S)
    (hp : ls.length ≤ p) (hn0 : 0 < n) (hpc : p + n ≤ c) (h1 : z.cells.toList.all (·.oneCell') = true) (hu : Upd S (entOwn intEnc 1 e (some ⟨g, 0, none⟩) c ls) (entOwn intEnc 1 e (some ⟨g, 0, none⟩) c ls) S') :
    ES P C E S ⟨none, .call ⟨.builtin .clear, #[x], #[t]⟩, ty, ps, af, g0⟩ (fun E' T => E' = E ∧ T = S') := by
  refine (ES_none (fun T => T = S') (fun a w ha hw => ?_)).weak (by rintro _ _ ⟨rfl, rfl⟩; exact ⟨rfl, rfl⟩)
  have ho : Own intEnc 1 e w 0 (.slice (some ⟨g, 0, none⟩) ls.length c) ls := (hw.holds _ hm).1
  obtain ⟨g', cap, cur, hv, hbb, hg, hnc, hcm, hcs, htake⟩ := ho.2.resolve_left (by simp)
  simp only [Value.slice.injEq, Option.some.injEq, Addr.mk.injEq, and_true, true_and] at hv
  obtain ⟨rfl, rfl⟩ := hv
  rw [Nat.mul_one] at hcs
  have run : ∀ w', (Builtin.clear_ #[t] ty #[.slice (some ⟨g, p, none⟩) n k]).run P w = .ok (.tuple #[]) w' → (execOp a.eval ⟨none, .call ⟨.builtin .clear, #[x], #[t]⟩, ty, ps, af, g0⟩).run P w = .ok (.value (.tuple #[])) w' := by
    intro w' h
    simp [execOp, resolve, invoke, builtin, ha.evo hx, h]
  have hzs : (Builtin.zeroCells z.cells n).size = n := by simp [Builtin.zeroCells, hi.zsize]
  have hst := run_storeCells_at P g p e (Builtin.zeroCells z.cells n).toList 0 cur w hg (by simp [hzs]; omega) (fun u hu => List.all_eq_true.1 h1 u (zeroCells_mem hu))
  simp only [Nat.add_zero] at hst
  obtain ⟨m, hm'⟩ : ∃ m, n = m + 1 := ⟨n - 1, by omega⟩
  refine ⟨.tuple #[], _, S', run _ ?_, hw.rewriteRow hu (fun _ => rfl) (cur' := (cur.toList.take p ++ (Builtin.zeroCells z.cells n).toList ++ cur.toList.drop (p + (Builtin.zeroCells z.cells n).toList.length)).toArray) ?_ hnc ?_, rfl⟩
  · subst hm'
    simp only [Builtin.clear_, List.getElem?_toArray, List.getElem?_cons_zero, run_underlying hs.und, Sem.run_bind, Result.andThen_ok, hz.run w, hst, Sem.run_pure]
  · simp [hzs]; omega
  · rw [List.toList_toArray, List.append_assoc, List.take_append_of_le_length (by simp; omega), List.take_take, Nat.min_eq_left (by omega)]
    exact htake
end
section
variable (g c : Nat) (ls : List Int) (w : World) (i : Nat) (hi : i < ls.length)
include hi
set_option maxRecDepth 100000 in
set_option maxHeartbeats 1000000 in
theorem delete_any (hm : Mem ⟨0, blks [entOwn intEnc 1 3 (some ⟨g, 0, none⟩) c ls], w⟩ w [entOwn intEnc 1 3 (some ⟨g, 0, none⟩) c ls]) (hc : ls.length ≤ c) :
    Calls Tryz.prog 293 #[.slice (some ⟨g, 0, none⟩) ls.length c, .int .i64 i, .int .i64 ((i : Int) + 1)] w fun e w' => e = .returned (.slice (some ⟨g, 0, none⟩) (ls.take i ++ ls.drop (i + 1)).length c) ∧
      Mem ⟨0, blks [entOwn intEnc 1 3 (some ⟨g, 0, none⟩) c ls], w⟩ w' [entOwn intEnc 1 3 (some ⟨g, 0, none⟩) c (ls.take i ++ ls.drop (i + 1))] := by
  generalize blks [entOwn intEnc 1 3 (some ⟨g, 0, none⟩) c ls] = F at hm ⊢
  refine calls_T F Tryz.func293 rfl Tryz.ntmps293 (by simp) (hm.anyN _) ?_
  have e1 : (i : Int) + 1 = ((i + 1 : Nat) : Int) := by omega
  rw [e1]
  have hll : (ls.take i ++ ls.drop (i + 1)).length = i + (ls.length - (i + 1)) := by simp only [List.length_append, List.length_take, List.length_drop]; omega
  have hadr : i + 1 < ls.length → (⟨g, if c = i + 1 then 0 else 0 + (i + 1) * 1, none⟩ : Addr) = ⟨g, i + 1, none⟩ := fun h => by
    rw [if_neg (by omega)]; congr 1; omega
  repeat' (first
    | ((first | with_reducible (first | apply TL_q | apply TD_q0 | apply TD_q1 | apply TD_q2 | apply TD_q3) | ((with_reducible (first | apply TD_q0y | apply TD_q1y)); exact rfl; exact rfl; (with_reducible exact rfl))); (first | exact QS.auto | ((with_reducible apply QS_sliceHigh); exact rfl; exact rfl; omega) | ((with_reducible apply QS_slice3); exact rfl; exact rfl; exact rfl; exact rfl; omega; omega; omega) | ((with_reducible apply QS_sliceLH); exact rfl; exact rfl; exact rfl; omega; omega)); exact rfl) | refine GG ?_ | (refine GE ?_; (first | rintro _ _ ⟨rfl, rfl⟩ | rintro _ _ ⟨g, rfl, rfl⟩ | rintro _ _ ⟨A', c', rfl, rfl⟩); (try refine ⟨SUB, ?_⟩)) | (refine GO2 ?_ ?_ <;> (refine Zs ?_; intro h; try exact Zx)) | refine GOF ?_ ?_ | ((with_reducible apply T_draw (id := 5) 6 (OT.seq [(0, 0), (0, 1), (0, 2), (0, 3), (0, 4), (0, 5), (3, 6), (0, 7)] .nil)); kernel_rfl; exact rfl; kernel_rfl; (repeat (first | with_reducible exact Blind.body | with_reducible apply Blind.seq | with_reducible apply Blind.block))) | ((with_reducible (first | apply TD_e2z | apply TD_e3z | apply TL_e | apply TD_e2 | apply TD_e3)); ((with_reducible apply ES_appendIn (i := i) (j := i + 1) (ls := ls)); exact rfl; exact rfl; exact rfl; omega; omega; exact hadr; exact Zu; exact rfl); (first | exact rfl | exact ⟨rfl, rfl, rfl⟩); (rintro _ _ ⟨rfl, rfl⟩); (try refine ⟨SUB, ?_⟩)) | ((with_reducible (first | apply TD_e2z | apply TD_e3z | apply TL_e | apply TD_e2 | apply TD_e3)); ((with_reducible apply ES_clearSpare (ls := ls.take i ++ ls.drop (i + 1))); exact rfl; (first | ((repeat (first | with_reducible exact List.mem_cons_self | with_reducible apply List.mem_cons_of_mem)); done) | (repeat (first | exact List.Mem.head _ | apply List.Mem.tail))); (rw [hll, if_neg (by omega)]; omega); omega; (rw [if_neg (by omega)]; omega); decide; (exact Zu)); (first | exact rfl | exact ⟨rfl, rfl, rfl⟩); (rintro _ _ ⟨rfl, rfl⟩); (try refine ⟨SUB, ?_⟩)) | fail)
  (refine At_ret Tryz.results293 rfl (fun w' hw => ?_))
  exact ⟨by rw [hll]; rfl, hw.anyN 0⟩
end
/-! slices that are read alone, of blocks of one's own -/
def entRd {α : Type} (enc : α → List Value) (M : Nat) (A : Option Addr) (l : List α) : Ent :=
  ⟨fun k => A.map (·.block) = some k, (A.map (·.block)).toList, fun k => by simp [Option.mem_toList], fun w => RdE enc M w A l, fun w w' h hp => by
    intro i x hx
    obtain ⟨b, o, rfl, hb, hc⟩ := hp i x hx
    have hh := h b rfl
    refine ⟨b, o, rfl, ?_, fun j v hv => (World.cell?_of_block (a := ⟨b, _, none⟩) hh).trans (hc j v hv)⟩
    have h1 : (w'.heap[b]?).isSome = true := by rw [hh]; simp [hb]
    have := (Array.getElem?_eq_some_iff.1 (Option.eq_some_of_isSome h1)).1
    exact this⟩
section
variable {C : Ctx} {w w' : World} {S : List Ent} {α : Type} {enc : α → List Value} {M et c : Nat} {A B : Option Addr} {ls l : List α}
theorem Mem.rdIn (hw : Mem C w S) (hm : entRd enc M A l ∈ S) : RdE enc M w A l := (hw.holds _ hm).1
/-- of what is one's own: to be read alone, a part of it too -/
theorem Mem.toRd {e : Ent} (hw : Mem C w S) (hm : e ∈ S) (hB : ∀ g, B.map (·.block) = some g → e.has g) (hr : RdE enc M w B l) : Mem C w [entRd enc M B l] := by
  refine ⟨hw.keeps, fun f hf => ?_, by simp⟩
  rw [List.mem_singleton] at hf
  subst hf
  exact ⟨hr, fun g hg => (hw.holds e hm).2 g (hB g hg)⟩
theorem Mem.ownToRd (hw : Mem C w S) (hm : entOwn enc M et A c ls ∈ S) (hM : ∀ x, (enc x).length = M) : Mem C w [entRd enc M A ls] :=
  hw.toRd hm (fun g hg => by
    show (Value.slice A ls.length c).ownBlock = some g
    cases A with
    | none => cases hg
    | some a => exact hg) (hw.ownRd hm hM)
end
end Go.Proofs.YtjdckepbihcgfaaGreatDoor
