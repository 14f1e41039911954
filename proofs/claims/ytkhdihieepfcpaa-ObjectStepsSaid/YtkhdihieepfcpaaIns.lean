/- slices.Insert at []int, of one item: out of the library's contract. No condition. -/
import Derived.Test.YtkhdihieepfcpaaObj4
import Derived.Shelf.Spec.SlicesInsertGrow
namespace Go.Proofs.Ytkhdihieepfcpaa
open Go.RowKit Go.Shelf Go.Lib

def insRho : Ren := ⟨fun n => if n = 21 then 212 else if n = 27 then 216 else if n = 28 then 217 else if n = 35 then 218 else 219,
  fun n => if n = 0 then 0 else if n = 3 then 3 else if n = 4 then 4 else 22, fun n => n⟩
set_option maxRecDepth 100000 in
theorem insLays : Lays2.n21 Try.prog insRho where
  mixed := by kernel_rfl
  f21 := by kernel_rfl
  f27 := by kernel_rfl
  f28 := by kernel_rfl
  f35 := by kernel_rfl
  f39 := by kernel_rfl
  t0 := Try.underlying0
  a0 := Try.isAgg0
  z0 := Try.sizeOf0
  v0 := Try.zeroValue0
  t3 := Try.underlying3
  a3 := Try.isAgg3
  z3 := Try.sizeOf3
  v3 := Try.zeroValue3
  t4 := Try.underlying4
  a4 := Try.isAgg4
  z4 := Try.sizeOf4
  v4 := Try.zeroValue4
  t22 := Try.underlying22
  a22 := Try.isAgg22
  z22 := Try.sizeOf22
  v22 := Try.zeroValue22
  i3 := by kernel_rfl
section
variable {w : World} {g o : Nat} {cur : Array Value} {e : TypeId} {vs : List Value}
theorem setCells_eq (P : Program) (hg : w.heap[g]? = some (.cells cur e (0, 0))) (hl : o + vs.length ≤ cur.size) (h1 : ∀ u ∈ vs, u.oneCell' = true) :
    w.setCells g o vs = w.setRow g (cur.toList.take o ++ vs ++ cur.toList.drop (o + vs.length)).toArray := by
  have r1 := run_storeCells_at P g o e vs 0 cur w hg (by simpa using hl) h1
  have hc : ∀ j, j < vs.length → (w.cell? ⟨g, o + j, none⟩).isSome = true := fun j hj => by
    simp only [World.cell?, hg]
    simp; omega
  have hf : ∀ j, j < vs.length → w.frozen? ⟨g, o + j, none⟩ = false := fun j hj => by simp [World.frozen?, hg]
  have r2 := run_storeCells_cells (P := P) g o vs 0 w (by simpa using hc) (by simpa using hf) h1
  simp only [Nat.add_zero] at r1 r2
  rw [r1] at r2
  exact (Result.ok.inj r2).2.symm
end
section
variable {C : Ctx} {w : World} {S S' : List Ent} {α : Type} {enc : α → List Value} {M e g c : Nat} {ls ls' : List α}
theorem Mem.rewriteRow (hw : Mem C w S) (hu : Upd S (entOwn enc M e (some ⟨g, 0, Option.none⟩) c ls) (entOwn enc M e (some ⟨g, 0, Option.none⟩) c ls') S') (hM : ∀ x, (enc x).length = M) {cur' : Array Value} (hsz : cur'.size = c * M) (hn : ls'.length ≤ c) (htk : cur'.toList.take (ls'.length * M) = ls'.flatMap enc) : Mem C (w.setRow g cur') S' := by
  have ho : Own enc M e w 0 (.slice (some ⟨g, 0, Option.none⟩) ls.length c) ls := (hw.holds _ hu.mem).1
  obtain ⟨g', cap, cur, hv, hbb, hg, hnc, hcm, hcs, htake⟩ := ho.2.resolve_left (by simp)
  simp only [Value.slice.injEq, Option.some.injEq, Addr.mk.injEq, and_true, true_and] at hv
  obtain ⟨rfl, rfl⟩ := hv
  refine hw.upd hu (Keeps.setRow w g _) (by simp [entOwn, Value.ownBlock]) (fun j hj => ?_) ?_
  · have hj' : some g = some j := hj
    cases hj'
    exact ⟨by simpa using (Array.getElem?_eq_some_iff.1 hg).1, .inl rfl⟩
  · show Own enc M e _ 0 (.slice (some ⟨g, 0, Option.none⟩) ls'.length c) ls'
    exact ⟨flat_len hM _, .inr ⟨g, c, cur', rfl, Nat.zero_le _, setRow_heap w g cur cur' e _ hg, hn, hcm, hsz, htk⟩⟩
end
def insL (ls : List Int) (i : Nat) (a : Int) : List Int := ls.take i ++ a :: ls.drop i
theorem intFlat (ls : List Int) : ls.flatMap intEnc = ls.map (Value.int .i64) := by
  induction ls with
  | nil => rfl
  | cons x ls ih => rw [List.flatMap_cons, ih]; rfl
theorem insL_len {ls : List Int} {i : Nat} {a : Int} (h : i ≤ ls.length) : (insL ls i a).length = ls.length + 1 := by
  simp only [insL, List.length_append, List.length_take, List.length_cons, List.length_drop]; omega
theorem insMap {ls : List Int} {i : Nat} {a : Int} : (insL ls i a).flatMap intEnc = (ls.map (Value.int .i64)).take i ++ Value.int .i64 a :: (ls.map (Value.int .i64)).drop i := by
  rw [intFlat, insL, List.map_append, List.map_cons, List.map_take, List.map_drop]
theorem insMap' {ls : List Int} {i : Nat} {a : Int} : (insL ls i a).map (Value.int .i64) = (ls.map (Value.int .i64)).take i ++ Value.int .i64 a :: (ls.map (Value.int .i64)).drop i := by
  rw [insL, List.map_append, List.map_cons, List.map_take, List.map_drop]
/-- what a shift does to the cells -/
theorem shift1 {xs rest : List Value} {i : Nat} (hi : i < xs.length) : ((xs ++ rest).take (0 + (i + 1)) ++ xs.drop i ++ (xs ++ rest).drop (0 + (i + 1) + (xs.drop i).length)).take (xs.length + 1) = xs.take (i + 1) ++ xs.drop i := by
  have e : (xs ++ rest).take (0 + (i + 1)) = xs.take (i + 1) := by rw [Nat.zero_add, List.take_append_of_le_length (by omega)]
  rw [e, List.take_left' (by simp; omega)]
theorem shift2 {xs tail : List Value} {i : Nat} {v : Value} (hi : i < xs.length) : ((xs.take (i + 1) ++ xs.drop i ++ tail).take (0 + i) ++ [v] ++ (xs.take (i + 1) ++ xs.drop i ++ tail).drop (0 + i + [v].length)).take (xs.length + 1) = xs.take i ++ v :: xs.drop i := by
  have e1 : (xs.take (i + 1) ++ xs.drop i ++ tail).take (0 + i) = xs.take i := by
    rw [Nat.zero_add, List.append_assoc, List.take_append_of_le_length (by simp; omega), List.take_take, Nat.min_eq_left (by omega)]
  have e2 : (xs.take (i + 1) ++ xs.drop i ++ tail).drop (0 + i + [v].length) = xs.drop i ++ tail := by
    rw [Nat.zero_add, List.length_singleton, List.append_assoc, List.drop_left' (by simp; omega)]
  rw [e1, e2, ← List.append_assoc, List.take_left' (by simp; omega)]
  simp
theorem zeros_len (k : Nat) : (Builtin.zeroCells (Value.int .i64 0).cells k).size = k := by simp [Builtin.zeroCells, Value.cells]
theorem zeros_list (k : Nat) : (Builtin.zeroCells (Value.int .i64 0).cells k).toList = List.replicate k (.int .i64 0) := by
  apply List.ext_getElem?
  intro i
  rw [List.getElem?_replicate]
  by_cases h : i < k
  · rw [if_pos h]
    simp [Builtin.zeroCells, Value.cells, h, Nat.mod_one]
  · rw [if_neg h, List.getElem?_eq_none (by simp [zeros_len]; omega)]
theorem newRow_memA {w : World} {F : List Nat} {l : List Int} {cap : Nat} {cs : Array Value} (hn : l.length ≤ cap) (hm : cap ≤ maxLen) (hsz : cs.size = cap) (htk : cs.toList.take l.length = l.map (Value.int .i64)) :
    Mem ⟨0, F, w⟩ (w.alloc (.cells cs 3)) [entOwn intEnc 1 3 (some ⟨w.heap.size, 0, none⟩) cap l] := by
  refine (Mem.nil ⟨0, F, w⟩).alloc (.cells cs 3) (e := entOwn intEnc 1 3 (some ⟨w.heap.size, 0, none⟩) cap l) (fun k hk => hk) ?_
  show Own intEnc 1 3 _ 0 (.slice (some ⟨w.heap.size, 0, none⟩) l.length cap) l
  refine ⟨flat_len (M := 1) (enc := intEnc) (fun _ => rfl) l, .inr ⟨w.heap.size, cap, cs, rfl, Nat.zero_le _, ?_, hn, hm, by omega, by rw [Nat.mul_one, htk, intFlat]⟩⟩
  have := Blk.new w 3 cs
  exact this
/-- a row made anew -/
theorem newRow_mem {w : World} {F : List Nat} {l : List Int} {cap : Nat} {cs : Array Value} (hn : l.length ≤ cap) (hm : cap ≤ maxLen) (hsz : cs.size = cap) (htk : cs.toList.take l.length = l.map (Value.int .i64)) :
    Mem ⟨0, F, w⟩ (w.drew.alloc (.cells cs 3)) [entOwn intEnc 1 3 (some ⟨w.heap.size, 0, none⟩) cap l] := by
  refine ((Mem.nil ⟨0, F, w⟩).drew).alloc (.cells cs 3) (e := entOwn intEnc 1 3 (some ⟨w.heap.size, 0, none⟩) cap l) (fun k hk => hk) ?_
  show Own intEnc 1 3 _ 0 (.slice (some ⟨w.heap.size, 0, none⟩) l.length cap) l
  refine ⟨flat_len (M := 1) (enc := intEnc) (fun _ => rfl) l, .inr ⟨w.heap.size, cap, cs, rfl, Nat.zero_le _, ?_, hn, hm, by omega, by rw [Nat.mul_one, htk, intFlat]⟩⟩
  have := Blk.new w.drew 3 cs
  exact this
set_option maxHeartbeats 1000000 in
theorem insert_any (w : World) (A : Option Addr) (c : Nat) (ls : List Int) (i vb vc : Nat) (a : Int) (ho : Own intEnc 1 3 w 0 (.slice A ls.length c) ls) (hb : Blk w vb 3 #[.int .i64 a])
    (hne : (Value.slice A ls.length c).ownBlock ≠ some vb) (hi : i ≤ ls.length) (hl : ls.length ≤ 50) :
    Calls Try.prog 212 #[.slice A ls.length c, .int .i64 i, .slice (some ⟨vb, 0, none⟩) 1 vc] w fun e w' =>
      ∃ x : Option Addr × Nat, e = .returned (.slice x.1 (insL ls i a).length x.2) ∧ Mem ⟨0, blks [entOwn intEnc 1 3 A c ls], w⟩ w' [entOwn intEnc 1 3 x.1 x.2 (insL ls i a)] := by
  have hvs : ∀ j v, ([Value.int .i64 a] : List Value)[j]? = some v → w.cell? ⟨vb, 0 + j, none⟩ = some v := fun j v hj => by
    rw [Nat.zero_add, hb.cell]; simpa using hj
  have h1v : ∀ v ∈ ([Value.int .i64 a] : List Value), v.oneCell' = true := fun v hv => by
    rw [List.mem_singleton] at hv; subst hv; rfl
  have h1c : ∀ v ∈ ls.map (Value.int .i64), v.oneCell' = true := fun v hv => by
    obtain ⟨x, _, rfl⟩ := List.mem_map.1 hv; rfl
  have hbase : Mem ⟨0, blks [entOwn intEnc 1 3 A c ls], w⟩ w [entOwn intEnc 1 3 A c ls] := by
    refine ⟨Keeps.refl _ _, fun e he => ?_, by simp⟩
    rw [List.mem_singleton] at he
    subst he
    exact ⟨ho, fun g hg => ⟨(World.ownsRow.lt ho g hg).2, .inl (by simp [blks, (entOwn intEnc 1 3 A c ls).hfin, hg])⟩⟩
  have hlen := insL_len (a := a) hi
  rcases ho.2 with ⟨hv, h0⟩ | ⟨g, cap, cur, hv, hbb, hg, hnc, hcm, hcs, htake⟩
  · -- the nil slice
    have hls : ls = [] := List.length_eq_zero_iff.1 h0
    subst hls
    simp only [Value.slice.injEq] at hv
    obtain ⟨rfl, -, rfl⟩ := hv
    obtain rfl : i = 0 := by simpa using hi
    refine (Any2.slices_Insert_int_end_grow insLays none 0 0 vb 0 1 vc [] [.int .i64 a] w (by omega) (by omega) (by omega) (by omega) rfl rfl (fun _ => rfl) (fun a h => by cases h) hvs h1v).mono ?_
    rintro e w' ⟨rfl, rfl⟩
    have hG := grownCap_ge w (0 + 1) 0 (insRho.t 3)
    have hGm := grownCap_le_maxLen w (0 + 1) 0 (insRho.t 3) (by unfold maxLen; omega)
    generalize grownCap w (0 + 1) 0 (insRho.t 3) = G at *
    refine ⟨(some ⟨w.heap.size, 0, none⟩, G), rfl, newRow_mem (l := [a]) (by simpa using hG) hGm ?_ ?_⟩
    · simp [zeros_len]; omega
    · simp
  · simp only [Value.slice.injEq] at hv
    obtain ⟨rfl, -, rfl⟩ := hv
    rw [Nat.mul_one] at htake hcs
    rw [intFlat] at htake
    have hvbg : vb ≠ g := fun e => hne (by subst e; rfl)
    have hml : ls.length ≤ cur.size := by omega
    have hcl : (ls.map (Value.int .i64)).length = ls.length := by simp
    have hcell : ∀ j, w.cell? ⟨g, 0 + j, none⟩ = cur[j]? := fun j => by
      rw [Nat.zero_add]
      simp [World.cell?, hg]
    have hcells : ∀ j v, (ls.map (Value.int .i64))[j]? = some v → w.cell? ⟨g, 0 + j, none⟩ = some v := fun j v hj => by
      rw [hcell, ← hj, ← htake, List.getElem?_take]
      have : j < ls.length := by have := (List.getElem?_eq_some_iff.1 hj).1; simpa using this
      rw [if_pos this]; simp
    have hfz : ∀ j, w.frozen? ⟨g, j, none⟩ = false := fun j => by simp [World.frozen?, hg]
    have hg' : w.drew.heap[g]? = some (.cells cur 3 (0, 0)) := hg
    have hhd : ∀ k, k ≤ cur.size → (cur.toList.take k).length = k := fun k hk => by simp; omega
    have hdnil : (ls.map (Value.int .i64)).drop ls.length = [] := List.drop_eq_nil_of_le (by simp)
    by_cases hend : i = ls.length
    · subst hend
      by_cases hroom : ls.length + 1 ≤ c
      · refine (Any2.slices_Insert_int_end_room insLays g 0 ls.length c vb 0 1 vc [.int .i64 a] w (by omega) hroom (by unfold maxLen at hcm; omega) rfl (fun j hj => by
          simp only [World.cell?, hg]; simp; omega) (fun j hj => hfz _) hvs h1v).mono ?_
        rintro e w' ⟨rfl, rfl⟩
        rw [setCells_eq Try.prog hg (by simp; omega) h1v]
        refine ⟨(some ⟨g, 0, none⟩, c), by rw [hlen], hbase.rewriteRow (Upd.here _ _ _) (fun _ => rfl) ?_ (by omega) ?_⟩
        · simp; omega
        · rw [Nat.mul_one, hlen, insMap, List.take_of_length_le (l := ls.map (Value.int .i64)) (by simp), hdnil, Nat.zero_add, htake]
          rw [List.toList_toArray, List.take_left' (by simp)]
      · refine (Any2.slices_Insert_int_end_grow insLays (some ⟨g, 0, none⟩) ls.length c vb 0 1 vc (ls.map (Value.int .i64)) [.int .i64 a] w (by omega) hnc (by omega) (by omega) hcl rfl (fun h => by cases h) (fun ad h j v hj => by
          cases h
          rw [add_mk]; exact hcells j v hj) hvs h1v).mono ?_
        rintro e w' ⟨rfl, rfl⟩
        have hG := grownCap_ge w (ls.length + 1) c (insRho.t 3)
        have hGm := grownCap_le_maxLen w (ls.length + 1) c (insRho.t 3) (by unfold maxLen; omega)
        generalize grownCap w (ls.length + 1) c (insRho.t 3) = G at *
        refine ⟨(some ⟨w.heap.size, 0, none⟩, G), by rw [hlen], newRow_mem (by omega) hGm ?_ ?_⟩
        · simp [zeros_len]; omega
        · rw [hlen, insMap', List.take_of_length_le (l := ls.map (Value.int .i64)) (by simp), List.drop_eq_nil_of_le (by simp)]
          simp only [Array.toList_append]
          rw [List.take_left' (by simp)]
    · by_cases hroom : ls.length + 1 ≤ c
      · refine (Any2.slices_Insert_int_shift insLays g 0 ls.length c i vb 0 1 vc (ls.map (Value.int .i64)) [.int .i64 a] w (by omega) (by omega) hroom (by unfold maxLen at hcm; omega) hvbg hcl rfl hcells (fun j hj => by
          rw [hcell]; simp; omega) (fun j hj => hfz _) hvs h1c h1v 3 3 1 cur.size (by
          unfold Blk at hb; simp [World.shape?, hb]) (by simp [World.shape?, hg]) (by omega) (hb.frozen _) (hb.frozen _)).mono ?_
        rintro e w' ⟨rfl, rfl⟩
        -- the items behind i, one place on
        obtain ⟨rest, hrest⟩ : ∃ rest, cur.toList = ls.map (Value.int .i64) ++ rest := ⟨cur.toList.drop ls.length, by rw [← htake, List.take_append_drop]⟩
        have hrl : ls.length + rest.length = c := by
          have := congrArg List.length hrest
          simp at this; omega
        have hmi : (insL ls i a).flatMap intEnc = (ls.map (Value.int .i64)).take i ++ Value.int .i64 a :: (ls.map (Value.int .i64)).drop i := insMap
        have hmj : (ls.take (i + 1) ++ ls.drop i).flatMap intEnc = (ls.map (Value.int .i64)).take (i + 1) ++ (ls.map (Value.int .i64)).drop i := by
          rw [intFlat, List.map_append, List.map_take, List.map_drop]
        have hil : i < (ls.map (Value.int .i64)).length := by rw [hcl]; omega
        have hdl : ((ls.map (Value.int .i64)).drop i).length = ls.length - i := by simp
        have h1d : ∀ v ∈ (ls.map (Value.int .i64)).drop i, v.oneCell' = true := fun v hv => h1c v (List.mem_of_mem_drop hv)
        rw [setCells_eq Try.prog (w := w.drew) (o := 0 + (i + 1)) hg' (by rw [hdl]; omega) h1d, hrest]
        have hj : (ls.take (i + 1) ++ ls.drop i).length = ls.length + 1 := by simp; omega
        generalize hxs : ls.map (Value.int .i64) = xs at *
        obtain ⟨c1, hc1⟩ : ∃ c1, c1 = (xs ++ rest).take (0 + (i + 1)) ++ xs.drop i ++ (xs ++ rest).drop (0 + (i + 1) + (xs.drop i).length) := ⟨_, rfl⟩
        have hc1l : c1.length = c := by rw [hc1]; simp; omega
        have hc1t : c1.take (xs.length + 1) = xs.take (i + 1) ++ xs.drop i := by rw [hc1]; exact shift1 hil
        obtain ⟨tail, htail⟩ : ∃ tail, c1 = xs.take (i + 1) ++ xs.drop i ++ tail := ⟨c1.drop (xs.length + 1), by rw [← hc1t, List.take_append_drop]⟩
        rw [← hc1]
        have hw1 : Mem ⟨0, blks [entOwn intEnc 1 3 (some ⟨g, 0, none⟩) c ls], w⟩ (w.drew.setRow g c1.toArray) [entOwn intEnc 1 3 (some ⟨g, 0, none⟩) c (ls.take (i + 1) ++ ls.drop i)] := by
          refine hbase.drew.rewriteRow (Upd.here _ _ _) (fun _ => rfl) (by simp [hc1l]) (by omega) ?_
          rw [Nat.mul_one, hj, hmj, List.toList_toArray, ← hc1t, hcl]
        have hg1 : (w.drew.setRow g c1.toArray).heap[g]? = some (.cells c1.toArray 3 (0, 0)) := setRow_heap w.drew g cur c1.toArray _ _ hg'
        rw [setCells_eq Try.prog hg1 (by simp; omega) h1v]
        refine ⟨(some ⟨g, 0, none⟩, c), by rw [hlen], hw1.rewriteRow (Upd.here _ _ _) (fun _ => rfl) ?_ (by omega) ?_⟩
        · simp; omega
        · rw [Nat.mul_one, hlen, hmi, List.toList_toArray, List.toList_toArray, htail, ← hcl]
          exact shift2 hil
      · refine (Any2.slices_Insert_int_grow insLays g 0 ls.length c i vb 0 1 vc (ls.map (Value.int .i64)) [.int .i64 a] w (by omega) (by omega) hnc (by omega) (by omega) hcl rfl hcells hvs h1c h1v).mono ?_
        rintro e w' ⟨rfl, rfl⟩
        have hG := grownCap_ge w (ls.length + 1) c (insRho.t 3)
        have hGm := grownCap_le_maxLen w (ls.length + 1) c (insRho.t 3) (by unfold maxLen; omega)
        generalize grownCap w (ls.length + 1) c (insRho.t 3) = G at *
        have hil : i < (ls.map (Value.int .i64)).length := by rw [hcl]; omega
        have hdl : ((ls.map (Value.int .i64)).drop i).length = ls.length - i := by simp
        have h1d : ∀ v ∈ (ls.map (Value.int .i64)).drop i, v.oneCell' = true := fun v hv => h1c v (List.mem_of_mem_drop hv)
        obtain ⟨c0, hc0⟩ : ∃ c0 : List Value, c0 = (ls.map (Value.int .i64)).take i ++ (List.replicate (ls.length + 1 - i) (.int .i64 0) ++ List.replicate (G - (ls.length + 1)) (.int .i64 0)) := ⟨_, rfl⟩
        have hrow : ((ls.map (Value.int .i64)).take i).toArray ++ Builtin.zeroCells (Value.int .i64 0).cells (ls.length + 1 - i) ++ Builtin.zeroCells (Value.int .i64 0).cells (G - (ls.length + 1)) = c0.toArray := by
          apply Array.toList_inj.1
          simp only [Array.toList_append, zeros_list, hc0, List.append_assoc]
        rw [hrow, show insRho.t 3 = 3 from rfl]
        have hc0l : c0.length = G := by rw [hc0]; simp; omega
        have hw0 : Mem ⟨0, blks [entOwn intEnc 1 3 (some ⟨g, 0, none⟩) c ls], w⟩ (w.alloc (.cells c0.toArray 3)).drew [entOwn intEnc 1 3 (some ⟨w.heap.size, 0, none⟩) G (ls.take i ++ List.replicate (ls.length + 1 - i) 0)] := by
          refine (newRow_memA (l := ls.take i ++ List.replicate (ls.length + 1 - i) 0) (by simp; omega) hGm (by simp [hc0l]) ?_).drew
          rw [hc0, List.toList_toArray, ← List.append_assoc, List.take_left' (by simp)]
          simp
        have hg0 : (w.alloc (.cells c0.toArray 3)).drew.heap[w.heap.size]? = some (.cells c0.toArray 3 (0, 0)) := Blk.new w 3 c0.toArray
        rw [setCells_eq Try.prog (o := i) hg0 (by simp [hc0l]; omega) h1v]
        obtain ⟨c1, hc1⟩ : ∃ c1 : List Value, c1 = c0.take i ++ [.int .i64 a] ++ c0.drop (i + 1) := ⟨_, rfl⟩
        have hc1l : c1.length = G := by rw [hc1]; simp; omega
        have hc1e : c1 = (ls.map (Value.int .i64)).take i ++ [.int .i64 a] ++ (List.replicate (ls.length - i) (.int .i64 0) ++ List.replicate (G - (ls.length + 1)) (.int .i64 0)) := by
          rw [hc1, hc0, List.take_left' (by simp; omega)]
          congr 1
          rw [List.drop_append, List.drop_eq_nil_of_le (by simp; omega), List.nil_append, show i + 1 - ((ls.map (Value.int .i64)).take i).length = 1 by simp; omega, show ls.length + 1 - i = (ls.length - i) + 1 by omega, List.replicate_succ]
          rfl
        have hw1 : Mem ⟨0, blks [entOwn intEnc 1 3 (some ⟨g, 0, none⟩) c ls], w⟩ (((w.alloc (.cells c0.toArray 3)).drew.setRow w.heap.size c1.toArray).drew) [entOwn intEnc 1 3 (some ⟨w.heap.size, 0, none⟩) G (ls.take i ++ [a] ++ List.replicate (ls.length - i) 0)] := by
          refine (hw0.rewriteRow (Upd.here _ _ _) (fun _ => rfl) (by simp [hc1l]) (by simp; omega) ?_).drew
          rw [Nat.mul_one, hc1e, List.toList_toArray, ← List.append_assoc, List.take_left' (by simp), intFlat]
          simp
        have hg1 : (((w.alloc (.cells c0.toArray 3)).drew.setRow w.heap.size c1.toArray).drew).heap[w.heap.size]? = some (.cells c1.toArray 3 (0, 0)) := setRow_heap _ w.heap.size c0.toArray c1.toArray _ _ hg0
        rw [show (c0.toArray.toList.take i ++ [Value.int .i64 a] ++ c0.toArray.toList.drop (i + [Value.int .i64 a].length)).toArray = c1.toArray by rw [hc1]; rfl]
        rw [setCells_eq Try.prog (o := i + 1) hg1 (by simp [hc1l]; omega) h1d]
        refine ⟨(some ⟨w.heap.size, 0, none⟩, G), by rw [hlen], hw1.rewriteRow (Upd.here _ _ _) (fun _ => rfl) ?_ (by omega) ?_⟩
        · simp; omega
        · rw [Nat.mul_one, hlen, insMap, List.toList_toArray, List.toList_toArray]
          have e1 : c1.take (i + 1) = (ls.map (Value.int .i64)).take i ++ [.int .i64 a] := by rw [hc1e, List.take_left' (by simp; omega)]
          rw [e1, List.take_left' (by simp; omega)]
          simp
end Go.Proofs.Ytkhdihieepfcpaa
