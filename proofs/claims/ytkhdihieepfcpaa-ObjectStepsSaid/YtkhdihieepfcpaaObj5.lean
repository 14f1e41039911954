/- slices.Delete of one item; slices that are read alone. No condition. -/
import Derived.Test.YtkhdihieepfcpaaIns
import Derived.Test.YtkhdihieepfcpaaS
namespace Go.Proofs.Ytkhdihieepfcpaa
open Go.RowKit

section
variable {P : Program} {C : Ctx} {Q : Exit → Act → World → Prop} {E : Slots} {S S' : List Ent} {l rest : List Oper}
variable {t m e bytes d g p n c i j q cy k : Nat} {x y u : Operand} {v z : Value} {ty : TypeId} {g0 : Option (Nat × Bool)} {ps : String} {af : Array Edge} {ad : Addr} {ls : List Int}
theorem QS_sliceLH [hs : SliceOf P t e m] {k1 k2 : IntKind} {l h : Nat} (hx : evo E x = some (.slice (some ⟨g, p, none⟩) n c)) (hy : evo E y = some (.int k1 (l : Nat))) (hu : evo E u = some (.int k2 (h : Nat))) (hl : l ≤ h) (hh : h ≤ c) :
    QS P C E S (.slice t x (some y) (some u) none) ty (.slice (some ⟨g, if c = l then p else p + l * m, none⟩) (h - l) (c - l)) :=
  QS.of (fun a w ha _ => by
    have he : P.elem t = e := by simp [Program.elem, hs.und]
    have hu' : P.underlying t = some (.slice (P.elem t)) := by rw [he]; exact hs.und
    have hr := run_slice_lh (P := P) (w := w) t (some ⟨g, p, none⟩) n c hu' k1 k2 (l : Int) (h : Int) (by omega) (by omega) (by omega)
    rw [he, hs.size w] at hr
    simp only [Result.andThen_ok, Int.toNat_natCast] at hr
    have hv : sliced (some ⟨g, p, none⟩) l h c m = .slice (some ⟨g, if c = l then p else p + l * m, none⟩) (h - l) (c - l) := by
      unfold sliced
      split <;> simp [add_mk]
    rw [hv] at hr
    simp [execOp, ha.evo hx, ha.evo hy, ha.evo hu, run_sliceAt_slice (P := P) (w := w) t _ _ _ _ hu', hr])
theorem QS_slice3 [hs : SliceOf P t e m] {k1 k2 k3 : IntKind} {r : Operand} {l h b : Int} (hx : evo E x = some (.slice (some ⟨g, p, none⟩) n c)) (hy : evo E y = some (.int k1 l)) (hu : evo E u = some (.int k2 h)) (hr : evo E r = some (.int k3 b)) (hl : 0 ≤ l ∧ l ≤ h) (hh : h ≤ b) (hb : b ≤ c) :
    QS P C E S (.slice t x (some y) (some u) (some r)) ty (sliced (some ⟨g, p, none⟩) l.toNat h.toNat b.toNat m) :=
  QS.of (fun a w ha _ => by
    have he : P.elem t = e := by simp [Program.elem, hs.und]
    have hu' : P.underlying t = some (.slice (P.elem t)) := by rw [he]; exact hs.und
    have hrr := run_slice_lhm (P := P) (w := w) t (some ⟨g, p, none⟩) n c hu' k1 k2 k3 l h b hl.1 hl.2 hh hb
    rw [he, hs.size w] at hrr
    simp only [Result.andThen_ok] at hrr
    simp [execOp, ha.evo hx, ha.evo hy, ha.evo hu, ha.evo hr, run_sliceAt_slice (P := P) (w := w) t _ _ _ _ hu', hrr])
theorem intOnes (l : List Int) : ∀ v ∈ l.flatMap intEnc, v.oneCell' = true := fun v hv => by
  rw [intFlat] at hv
  obtain ⟨x, _, rfl⟩ := List.mem_map.1 hv; rfl
/-- the end of a row of one's own, laid over its middle -/
theorem ES_appendIn [hs : SliceOf P t e 1] [hi : InfoOf P e z 1 bytes] (hx : evo E x = some (.slice (some ⟨g, 0, none⟩) i c)) (hy : evo E y = some (.slice (some ad) q cy))
    (hq : q = ls.length - j) (hij : i ≤ j) (hj : j ≤ ls.length) (had : j < ls.length → ad = ⟨g, j, none⟩)
    (hu : Upd S (entOwn intEnc 1 e (some ⟨g, 0, none⟩) c ls) (entOwn intEnc 1 e (some ⟨g, 0, none⟩) c (ls.take i ++ ls.drop j)) S') (hd : Nat.ble (d + 1) C.n = true) :
    ES P C E S ⟨some d, .call ⟨.builtin .append, #[x, y], #[t, t]⟩, ty, ps, af, g0⟩ (fun E' T => E' = (d, .slice (some ⟨g, 0, none⟩) (i + q) c) :: E ∧ T = S') := by
  refine (ES_core (fun u T => u = .slice (some ⟨g, 0, none⟩) (i + q) c ∧ T = S') (fun a w ha hw => ?_) hd).weak (by rintro _ _ ⟨_, ⟨rfl, rfl⟩, rfl⟩; exact ⟨rfl, rfl⟩)
  have ho : Own intEnc 1 e w 0 (.slice (some ⟨g, 0, none⟩) ls.length c) ls := (hw.holds _ hu.mem).1
  obtain ⟨g', cap, cur, hv, hbb, hg, hnc, hcm, hcs, htake⟩ := ho.2.resolve_left (by simp)
  simp only [Value.slice.injEq, Option.some.injEq, Addr.mk.injEq, and_true, true_and] at hv
  obtain ⟨rfl, rfl⟩ := hv
  rw [Nat.mul_one] at hcs htake
  rw [intFlat] at htake
  obtain ⟨ti, hi0, hi1, hi2, hi3⟩ := hi.parts
  have hql : (ls.drop j).length = q := by rw [List.length_drop, hq]
  have hn : ((ls.drop j).flatMap intEnc).length = q := by rw [intFlat, List.length_map, hql]
  have hcell : ∀ k, w.cell? ⟨g, k, none⟩ = cur[k]? := fun k => by simp [World.cell?, hg]
  have hread : ∀ k u, ((ls.drop j).flatMap intEnc)[k]? = some u → w.cell? (ad.add k) = some u := fun k u hk => by
    have hkq : k < q := by rw [← hn]; exact (List.getElem?_eq_some_iff.1 hk).1
    rw [had (by omega), add_mk, hcell]
    rw [intFlat, List.getElem?_map, List.getElem?_drop, ← List.getElem?_map, ← htake, List.getElem?_take] at hk
    rw [if_pos (by omega)] at hk
    rw [← hk]; simp
  have hr := run_append_room_cells (P := P) (w := w) t ty e ti hs.und hi0 g 0 i c ad q cy ((ls.drop j).flatMap intEnc) (by rw [hi2, hn, Nat.mul_one]) hread (intOnes _) (by omega)
    (fun k hk => by rw [hi2, hcell]; simp; omega) (fun k hk => by simp [World.frozen?, hg])
  rw [hi2, Nat.zero_add, Nat.mul_one, setCells_eq P hg (by rw [hn]; omega) (intOnes _)] at hr
  refine ⟨_, w.setRow g (cur.toList.take i ++ (ls.drop j).flatMap intEnc ++ cur.toList.drop (i + ((ls.drop j).flatMap intEnc).length)).toArray, S', ?_, hw.rewriteRow hu (fun _ => rfl) ?_ ?_ ?_, rfl, rfl⟩
  · simp [execOp, resolve, invoke, builtin, ha.evo hx, ha.evo hy, hr]
  · simp [hn]; omega
  · simp; omega
  · have hil : (ls.take i ++ ls.drop j).length = i + q := by rw [List.length_append, List.length_take, hql]; omega
    have e1 : cur.toList.take i = (ls.take i).map (Value.int .i64) := by
      rw [List.map_take, ← htake, List.take_take, Nat.min_eq_left (by omega)]
    rw [Nat.mul_one, hil, List.toList_toArray, e1, List.take_left' (by simp [hn]; omega), intFlat, intFlat, List.map_append]
/-- clear, behind what is known of a row of one's own -/
theorem ES_clearSpare [hs : SliceOf P t e 1] [hi : InfoOf P e z 1 bytes] [hz : ZeroOf P e z] (hx : evo E x = some (.slice (some ⟨g, p, none⟩) n k)) (hm : entOwn intEnc 1 e (some ⟨g, 0, none⟩) c ls ∈ S)
    (hp : ls.length ≤ p) (hn0 : 0 < n) (hpc : p + n ≤ c) (h1 : z.cells.toList.all (·.oneCell') = true) (hu : Upd S (entOwn intEnc 1 e (some ⟨g, 0, none⟩) c ls) (entOwn intEnc 1 e (some ⟨g, 0, none⟩) c ls) S') :
    ES P C E S ⟨none, .call ⟨.builtin .clear, #[x], #[t]⟩, ty, ps, af, g0⟩ (fun E' T => E' = E ∧ T = S') := by
  refine (ES_none (fun T => T = S') (fun a w ha hw => ?_)).weak (by rintro _ _ ⟨rfl, rfl⟩; exact ⟨rfl, rfl⟩)
  have ho : Own intEnc 1 e w 0 (.slice (some ⟨g, 0, none⟩) ls.length c) ls := (hw.holds _ hm).1
  obtain ⟨g', cap, cur, hv, hbb, hg, hnc, hcm, hcs, htake⟩ := ho.2.resolve_left (by simp)
  simp only [Value.slice.injEq, Option.some.injEq, Addr.mk.injEq, and_true, true_and] at hv
  obtain ⟨rfl, rfl⟩ := hv
  rw [Nat.mul_one] at hcs
  have run : ∀ w', (Builtin.clear_ #[t] ty #[.slice (some ⟨g, p, none⟩) n k]).run P w = .ok (.tuple #[]) w' → (execOp a.eval ⟨none, .call ⟨.builtin .clear, #[x], #[t]⟩, ty, ps, af, g0⟩).run P w = .ok (.value (.tuple #[])) w' := by
    intro w' h
    simp [execOp, resolve, invoke, builtin, ha.evo hx, h]
  have hzs : (Builtin.zeroCells z.cells n).size = n := by simp [Builtin.zeroCells, hi.zsize]
  have hst := run_storeCells_at P g p e (Builtin.zeroCells z.cells n).toList 0 cur w hg (by simp [hzs]; omega) (fun u hu => List.all_eq_true.1 h1 u (zeroCells_mem hu))
  simp only [Nat.add_zero] at hst
  obtain ⟨m, hm'⟩ : ∃ m, n = m + 1 := ⟨n - 1, by omega⟩
  refine ⟨.tuple #[], _, S', run _ ?_, hw.rewriteRow hu (fun _ => rfl) (cur' := (cur.toList.take p ++ (Builtin.zeroCells z.cells n).toList ++ cur.toList.drop (p + (Builtin.zeroCells z.cells n).toList.length)).toArray) ?_ hnc ?_, rfl⟩
  · subst hm'
    simp only [Builtin.clear_, List.getElem?_toArray, List.getElem?_cons_zero, run_underlying hs.und, Sem.run_bind, Result.andThen_ok, hz.run w, hst, Sem.run_pure]
  · simp [hzs]; omega
  · rw [List.toList_toArray, List.append_assoc, List.take_append_of_le_length (by simp; omega), List.take_take, Nat.min_eq_left (by omega)]
    exact htake
end
section
variable (g c : Nat) (ls : List Int) (w : World) (i : Nat) (hi : i < ls.length)
include hi
set_option maxRecDepth 100000 in
set_option maxHeartbeats 1000000 in
theorem delete_any (hm : Mem ⟨0, blks [entOwn intEnc 1 3 (some ⟨g, 0, none⟩) c ls], w⟩ w [entOwn intEnc 1 3 (some ⟨g, 0, none⟩) c ls]) (hc : ls.length ≤ c) :
    Calls Try.prog 213 #[.slice (some ⟨g, 0, none⟩) ls.length c, .int .i64 i, .int .i64 ((i : Int) + 1)] w fun e w' => e = .returned (.slice (some ⟨g, 0, none⟩) (ls.take i ++ ls.drop (i + 1)).length c) ∧
      Mem ⟨0, blks [entOwn intEnc 1 3 (some ⟨g, 0, none⟩) c ls], w⟩ w' [entOwn intEnc 1 3 (some ⟨g, 0, none⟩) c (ls.take i ++ ls.drop (i + 1))] := by
  generalize blks [entOwn intEnc 1 3 (some ⟨g, 0, none⟩) c ls] = F at hm ⊢
  refine calls_T F Try.func213 rfl Try.ntmps213 (by simp) (hm.anyN _) ?_
  have e1 : (i : Int) + 1 = ((i + 1 : Nat) : Int) := by omega
  rw [e1]
  have hll : (ls.take i ++ ls.drop (i + 1)).length = i + (ls.length - (i + 1)) := by simp only [List.length_append, List.length_take, List.length_drop]; omega
  have hadr : i + 1 < ls.length → (⟨g, if c = i + 1 then 0 else 0 + (i + 1) * 1, none⟩ : Addr) = ⟨g, i + 1, none⟩ := fun h => by
    rw [if_neg (by omega)]; congr 1; omega
  repeat' (first
    | first | with_reducible apply T_seq | with_reducible apply T_region | with_reducible apply TL_nil | with_reducible apply At_then | with_reducible apply T_block | with_reducible apply At_block | with_reducible apply T_skip | with_reducible apply T_exit | with_reducible apply At_then_exit | with_reducible apply At_block_exit | ((with_reducible apply At_block_past); exact rfl) | with_reducible apply T_ret | with_reducible apply At_then_ret | with_reducible apply At_block_ret | with_reducible apply TD_nil | with_reducible apply TD_fork | ((with_reducible apply TL_q); (first | exact QS.auto | ((with_reducible apply QS_sliceHigh); exact rfl; exact rfl; omega) | ((with_reducible apply QS_slice3); exact rfl; exact rfl; exact rfl; exact rfl; omega; omega; omega) | ((with_reducible apply QS_sliceLH); exact rfl; exact rfl; exact rfl; omega; omega)); exact rfl) | ((with_reducible apply TL_e); exact ES.auto; exact rfl; (first | (rintro _ _ ⟨rfl, rfl⟩) | (rintro _ _ ⟨g, rfl, rfl⟩) | (rintro _ _ ⟨A', c', rfl, rfl⟩))) | (first | ((with_reducible apply TL_yes); exact rfl; exact rfl; (with_reducible exact rfl)) | ((with_reducible apply TL_no); exact rfl; exact rfl; (first | with_reducible exact Bool.not_true.symm | with_reducible exact Bool.not_false.symm); exact rfl) | ((with_reducible apply TL_no_undef); exact rfl; exact rfl; exact rfl) | (((with_reducible apply TL_guard); exact rfl; exact rfl; (fail_if_success (with_reducible refine imp_lit1 ?_)); (fail_if_success (with_reducible refine imp_lit0))) <;> intro h <;> (try (repeat (first | with_reducible (replace h := of_decide_eq_true h) | with_reducible (replace h := of_decide_eq_false h) | with_reducible (replace h := bnt h) | with_reducible (replace h := bnf h) | with_reducible (replace h := Int.not_lt.mp h) | with_reducible (replace h := Int.not_le.mp h) | with_reducible (replace h := band_dec h) | with_reducible (replace h := band_decF h) | with_reducible (replace h := bor_dec h) | with_reducible (replace h := bor_decF h)))) <;> (try (exfalso; first | contradiction | omega))) | (((with_reducible apply TD_guard); exact rfl; exact rfl; (fail_if_success (with_reducible refine imp_lit1 ?_)); (fail_if_success (with_reducible refine imp_lit0))) <;> intro h <;> (try (repeat (first | with_reducible (replace h := of_decide_eq_true h) | with_reducible (replace h := of_decide_eq_false h) | with_reducible (replace h := bnt h) | with_reducible (replace h := bnf h) | with_reducible (replace h := Int.not_lt.mp h) | with_reducible (replace h := Int.not_le.mp h) | with_reducible (replace h := band_dec h) | with_reducible (replace h := band_decF h) | with_reducible (replace h := bor_dec h) | with_reducible (replace h := bor_decF h)))) <;> (try (exfalso; first | contradiction | omega)))) | (((with_reducible apply T_cond); exact rfl) <;> intro h <;> (try (repeat (first | with_reducible (replace h := of_decide_eq_true h) | with_reducible (replace h := of_decide_eq_false h) | with_reducible (replace h := bnt h) | with_reducible (replace h := bnf h) | with_reducible (replace h := Int.not_lt.mp h) | with_reducible (replace h := Int.not_le.mp h) | with_reducible (replace h := band_dec h) | with_reducible (replace h := band_decF h) | with_reducible (replace h := bor_dec h) | with_reducible (replace h := bor_decF h)))) <;> (try (exfalso; first | contradiction | omega))) | ((with_reducible apply TD_q0); (first | exact QS.auto | ((with_reducible apply QS_sliceHigh); exact rfl; exact rfl; omega) | ((with_reducible apply QS_slice3); exact rfl; exact rfl; exact rfl; exact rfl; omega; omega; omega) | ((with_reducible apply QS_sliceLH); exact rfl; exact rfl; exact rfl; omega; omega)); exact rfl) | ((with_reducible apply TD_q1); (first | exact QS.auto | ((with_reducible apply QS_sliceHigh); exact rfl; exact rfl; omega) | ((with_reducible apply QS_slice3); exact rfl; exact rfl; exact rfl; exact rfl; omega; omega; omega) | ((with_reducible apply QS_sliceLH); exact rfl; exact rfl; exact rfl; omega; omega)); exact rfl) | ((with_reducible apply TD_q0y); exact rfl; exact rfl; (with_reducible exact rfl); (first | exact QS.auto | ((with_reducible apply QS_sliceHigh); exact rfl; exact rfl; omega) | ((with_reducible apply QS_slice3); exact rfl; exact rfl; exact rfl; exact rfl; omega; omega; omega) | ((with_reducible apply QS_sliceLH); exact rfl; exact rfl; exact rfl; omega; omega)); exact rfl) | ((with_reducible apply TD_q1y); exact rfl; exact rfl; (with_reducible exact rfl); (first | exact QS.auto | ((with_reducible apply QS_sliceHigh); exact rfl; exact rfl; omega) | ((with_reducible apply QS_slice3); exact rfl; exact rfl; exact rfl; exact rfl; omega; omega; omega) | ((with_reducible apply QS_sliceLH); exact rfl; exact rfl; exact rfl; omega; omega)); exact rfl) | ((with_reducible apply TD_no); exact rfl; exact rfl; exact rfl; (first | with_reducible exact Bool.not_true.symm | with_reducible exact Bool.not_false.symm); exact rfl) | ((with_reducible apply TD_noU); exact rfl; exact rfl; exact rfl; exact rfl) | ((with_reducible apply TD_e2); exact ES.auto; exact rfl; (first | (rintro _ _ ⟨rfl, rfl⟩) | (rintro _ _ ⟨g, rfl, rfl⟩) | (rintro _ _ ⟨A', c', rfl, rfl⟩)); refine ⟨by (repeat (first | with_reducible exact List.nil_sublist _ | with_reducible exact List.Sublist.refl _ | with_reducible apply List.Sublist.cons_cons | with_reducible apply List.Sublist.cons)), ?_⟩) | ((with_reducible apply TD_e3); exact ES.auto; exact rfl; (first | (rintro _ _ ⟨rfl, rfl⟩) | (rintro _ _ ⟨g, rfl, rfl⟩) | (rintro _ _ ⟨A', c', rfl, rfl⟩))) | ((with_reducible apply TD_q3); (first | exact QS.auto | ((with_reducible apply QS_sliceHigh); exact rfl; exact rfl; omega) | ((with_reducible apply QS_slice3); exact rfl; exact rfl; exact rfl; exact rfl; omega; omega; omega) | ((with_reducible apply QS_sliceLH); exact rfl; exact rfl; exact rfl; omega; omega)); exact rfl) | ((with_reducible apply TD_q2); (first | exact QS.auto | ((with_reducible apply QS_sliceHigh); exact rfl; exact rfl; omega) | ((with_reducible apply QS_slice3); exact rfl; exact rfl; exact rfl; exact rfl; omega; omega; omega) | ((with_reducible apply QS_sliceLH); exact rfl; exact rfl; exact rfl; omega; omega)); exact rfl) | ((with_reducible apply TD_e2y); exact rfl; exact rfl; (with_reducible exact rfl); exact ES.auto; (first | (rintro _ _ ⟨rfl, rfl⟩) | (rintro _ _ ⟨g, rfl, rfl⟩) | (rintro _ _ ⟨A', c', rfl, rfl⟩)); refine ⟨by (repeat (first | with_reducible exact List.nil_sublist _ | with_reducible exact List.Sublist.refl _ | with_reducible apply List.Sublist.cons_cons | with_reducible apply List.Sublist.cons)), ?_⟩) | ((with_reducible apply TD_e3y); exact rfl; exact rfl; (with_reducible exact rfl); exact ES.auto; (first | (rintro _ _ ⟨rfl, rfl⟩) | (rintro _ _ ⟨g, rfl, rfl⟩) | (rintro _ _ ⟨A', c', rfl, rfl⟩))) | ((with_reducible apply TD_eno); exact rfl; exact rfl; exact rfl; (first | with_reducible exact Bool.not_true.symm | with_reducible exact Bool.not_false.symm); exact rfl) | ((with_reducible apply TD_enoU); exact rfl; exact rfl; exact rfl; exact rfl) | ((with_reducible apply T_draw (id := 5) 6 (OT.seq [(0, 0), (0, 1), (0, 2), (0, 3), (0, 4), (0, 5), (3, 6), (0, 7)] .nil)); kernel_rfl; exact rfl; kernel_rfl; (repeat (first | with_reducible exact Blind.body | with_reducible apply Blind.seq | with_reducible apply Blind.block))) | first | ((with_reducible apply TL_e); ((with_reducible apply ES_appendIn (i := i) (j := i + 1) (ls := ls)); exact rfl; exact rfl; exact rfl; omega; omega; exact hadr; (first | ((repeat (first | with_reducible exact Upd.here _ _ _ | with_reducible apply Upd.there)); done) | (repeat (first | exact Upd.here _ _ _ | apply Upd.there))); exact rfl); exact rfl; (rintro _ _ ⟨rfl, rfl⟩)) | ((with_reducible apply TD_e2); ((with_reducible apply ES_appendIn (i := i) (j := i + 1) (ls := ls)); exact rfl; exact rfl; exact rfl; omega; omega; exact hadr; (first | ((repeat (first | with_reducible exact Upd.here _ _ _ | with_reducible apply Upd.there)); done) | (repeat (first | exact Upd.here _ _ _ | apply Upd.there))); exact rfl); exact rfl; (rintro _ _ ⟨rfl, rfl⟩); refine ⟨by (repeat (first | with_reducible exact List.nil_sublist _ | with_reducible exact List.Sublist.refl _ | with_reducible apply List.Sublist.cons_cons | with_reducible apply List.Sublist.cons)), ?_⟩) | ((with_reducible apply TD_e3); ((with_reducible apply ES_appendIn (i := i) (j := i + 1) (ls := ls)); exact rfl; exact rfl; exact rfl; omega; omega; exact hadr; (first | ((repeat (first | with_reducible exact Upd.here _ _ _ | with_reducible apply Upd.there)); done) | (repeat (first | exact Upd.here _ _ _ | apply Upd.there))); exact rfl); exact rfl; (rintro _ _ ⟨rfl, rfl⟩)) | ((with_reducible apply TD_e2y); exact rfl; exact rfl; (with_reducible exact rfl); ((with_reducible apply ES_appendIn (i := i) (j := i + 1) (ls := ls)); exact rfl; exact rfl; exact rfl; omega; omega; exact hadr; (first | ((repeat (first | with_reducible exact Upd.here _ _ _ | with_reducible apply Upd.there)); done) | (repeat (first | exact Upd.here _ _ _ | apply Upd.there))); exact rfl); (rintro _ _ ⟨rfl, rfl⟩); refine ⟨by (repeat (first | with_reducible exact List.nil_sublist _ | with_reducible exact List.Sublist.refl _ | with_reducible apply List.Sublist.cons_cons | with_reducible apply List.Sublist.cons)), ?_⟩) | ((with_reducible apply TD_e3y); exact rfl; exact rfl; (with_reducible exact rfl); ((with_reducible apply ES_appendIn (i := i) (j := i + 1) (ls := ls)); exact rfl; exact rfl; exact rfl; omega; omega; exact hadr; (first | ((repeat (first | with_reducible exact Upd.here _ _ _ | with_reducible apply Upd.there)); done) | (repeat (first | exact Upd.here _ _ _ | apply Upd.there))); exact rfl); (rintro _ _ ⟨rfl, rfl⟩)) | first | ((with_reducible apply TL_e); ((with_reducible apply ES_clearSpare (ls := ls.take i ++ ls.drop (i + 1))); exact rfl; (first | ((repeat (first | with_reducible exact List.mem_cons_self | with_reducible apply List.mem_cons_of_mem)); done) | (repeat (first | exact List.Mem.head _ | apply List.Mem.tail))); (rw [hll, if_neg (by omega)]; omega); omega; (rw [if_neg (by omega)]; omega); decide; (first | ((repeat (first | with_reducible exact Upd.here _ _ _ | with_reducible apply Upd.there)); done) | (repeat (first | exact Upd.here _ _ _ | apply Upd.there)))); exact rfl; (rintro _ _ ⟨rfl, rfl⟩)) | ((with_reducible apply TD_e2); ((with_reducible apply ES_clearSpare (ls := ls.take i ++ ls.drop (i + 1))); exact rfl; (first | ((repeat (first | with_reducible exact List.mem_cons_self | with_reducible apply List.mem_cons_of_mem)); done) | (repeat (first | exact List.Mem.head _ | apply List.Mem.tail))); (rw [hll, if_neg (by omega)]; omega); omega; (rw [if_neg (by omega)]; omega); decide; (first | ((repeat (first | with_reducible exact Upd.here _ _ _ | with_reducible apply Upd.there)); done) | (repeat (first | exact Upd.here _ _ _ | apply Upd.there)))); exact rfl; (rintro _ _ ⟨rfl, rfl⟩); refine ⟨by (repeat (first | with_reducible exact List.nil_sublist _ | with_reducible exact List.Sublist.refl _ | with_reducible apply List.Sublist.cons_cons | with_reducible apply List.Sublist.cons)), ?_⟩) | ((with_reducible apply TD_e3); ((with_reducible apply ES_clearSpare (ls := ls.take i ++ ls.drop (i + 1))); exact rfl; (first | ((repeat (first | with_reducible exact List.mem_cons_self | with_reducible apply List.mem_cons_of_mem)); done) | (repeat (first | exact List.Mem.head _ | apply List.Mem.tail))); (rw [hll, if_neg (by omega)]; omega); omega; (rw [if_neg (by omega)]; omega); decide; (first | ((repeat (first | with_reducible exact Upd.here _ _ _ | with_reducible apply Upd.there)); done) | (repeat (first | exact Upd.here _ _ _ | apply Upd.there)))); exact rfl; (rintro _ _ ⟨rfl, rfl⟩)) | ((with_reducible apply TD_e2y); exact rfl; exact rfl; (with_reducible exact rfl); ((with_reducible apply ES_clearSpare (ls := ls.take i ++ ls.drop (i + 1))); exact rfl; (first | ((repeat (first | with_reducible exact List.mem_cons_self | with_reducible apply List.mem_cons_of_mem)); done) | (repeat (first | exact List.Mem.head _ | apply List.Mem.tail))); (rw [hll, if_neg (by omega)]; omega); omega; (rw [if_neg (by omega)]; omega); decide; (first | ((repeat (first | with_reducible exact Upd.here _ _ _ | with_reducible apply Upd.there)); done) | (repeat (first | exact Upd.here _ _ _ | apply Upd.there)))); (rintro _ _ ⟨rfl, rfl⟩); refine ⟨by (repeat (first | with_reducible exact List.nil_sublist _ | with_reducible exact List.Sublist.refl _ | with_reducible apply List.Sublist.cons_cons | with_reducible apply List.Sublist.cons)), ?_⟩) | ((with_reducible apply TD_e3y); exact rfl; exact rfl; (with_reducible exact rfl); ((with_reducible apply ES_clearSpare (ls := ls.take i ++ ls.drop (i + 1))); exact rfl; (first | ((repeat (first | with_reducible exact List.mem_cons_self | with_reducible apply List.mem_cons_of_mem)); done) | (repeat (first | exact List.Mem.head _ | apply List.Mem.tail))); (rw [hll, if_neg (by omega)]; omega); omega; (rw [if_neg (by omega)]; omega); decide; (first | ((repeat (first | with_reducible exact Upd.here _ _ _ | with_reducible apply Upd.there)); done) | (repeat (first | exact Upd.here _ _ _ | apply Upd.there)))); (rintro _ _ ⟨rfl, rfl⟩)) | fail)
  (refine At_ret Try.results213 rfl (fun w' hw => ?_))
  exact ⟨by rw [hll]; rfl, hw.anyN 0⟩
end
/-! slices that are read alone, of blocks of one's own -/
def entRd {α : Type} (enc : α → List Value) (M : Nat) (A : Option Addr) (l : List α) : Ent :=
  ⟨fun k => A.map (·.block) = some k, (A.map (·.block)).toList, fun k => by simp [Option.mem_toList], fun w => RdE enc M w A l, fun w w' h hp => by
    intro i x hx
    obtain ⟨b, o, rfl, hb, hc⟩ := hp i x hx
    have hh := h b rfl
    refine ⟨b, o, rfl, ?_, fun j v hv => (World.cell?_of_block (a := ⟨b, _, none⟩) hh).trans (hc j v hv)⟩
    have h1 : (w'.heap[b]?).isSome = true := by rw [hh]; simp [hb]
    have := (Array.getElem?_eq_some_iff.1 (Option.eq_some_of_isSome h1)).1
    exact this⟩
section
variable {C : Ctx} {w w' : World} {S : List Ent} {α : Type} {enc : α → List Value} {M et c : Nat} {A B : Option Addr} {ls l : List α}
theorem Mem.rdIn (hw : Mem C w S) (hm : entRd enc M A l ∈ S) : RdE enc M w A l := (hw.holds _ hm).1
/-- of what is one's own: to be read alone, a part of it too -/
theorem Mem.toRd {e : Ent} (hw : Mem C w S) (hm : e ∈ S) (hB : ∀ g, B.map (·.block) = some g → e.has g) (hr : RdE enc M w B l) : Mem C w [entRd enc M B l] := by
  refine ⟨hw.keeps, fun f hf => ?_, by simp⟩
  rw [List.mem_singleton] at hf
  subst hf
  exact ⟨hr, fun g hg => (hw.holds e hm).2 g (hB g hg)⟩
theorem Mem.ownToRd (hw : Mem C w S) (hm : entOwn enc M et A c ls ∈ S) (hM : ∀ x, (enc x).length = M) : Mem C w [entRd enc M A ls] :=
  hw.toRd hm (fun g hg => by
    show (Value.slice A ls.length c).ownBlock = some g
    cases A with
    | none => cases hg
    | some a => exact hg) (hw.ownRd hm hM)
end
end Go.Proofs.Ytkhdihieepfcpaa
