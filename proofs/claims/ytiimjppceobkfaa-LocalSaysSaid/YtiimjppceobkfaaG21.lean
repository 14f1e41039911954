/- Lemmas for the walks (Sea7, Bits, Ahd). No condition. -/
import Derived.Test.YtiimjppceobkfaaG20
import Derived.Test.YtiimjppceobkfaaG01
import Derived.Laws.BitsAllLaws
import Derived.Test.YtiimjppceobkfaaG15
import Derived.Test.YtiimjppceobkfaaG06
import Derived.RegionTactic
import Derived.BigRegion
import Derived.Laws.ShiftsVarLaws
set_option linter.unusedSimpArgs false
set_option linter.unusedVariables false
set_option linter.unusedSectionVars false
set_option linter.unnecessarySimpa false
namespace Go.Proofs.Ytiimjppceobkfaa
open Go.RowKit

section
variable {P : Program} {C : Ctx} {E : Slots} {S : List Ent} {ty ty2 ty3 a : Nat} {x y : Operand} {k : IntKind} {z : Int}
theorem QS_shr16Z (hx : evo E x = some (.int .u16 (a : Nat))) (hy : evo E y = some (.int k z)) (h0 : 0 ≤ z) (ha : a < 65536) : QS P C E S (.binOp .shr ty2 x y ty3) ty (.int .u16 ((a >>> z.toNat : Nat) : Int)) :=
  QS_shr16 (b := z.toNat) hx (by rw [hy]; congr; omega) ha
theorem QS_shl16Y (hx : evo E x = some (.int .u16 1)) (hy : evo E y = some (.int k z)) (h0 : 0 ≤ z) (hb : z < 16) : QS P C E S (.binOp .shl ty2 x y ty3) ty (.int .u16 ((2 ^ z.toNat : Nat) : Int)) :=
  QS_shl16 (b := z.toNat) hx (by rw [hy]; congr; omega) (by omega)
end
/-- what was done at each thing -/
def rowsOf (cs : List Cl) (n : Nat) (w : List Stp) : List (List Dn) := (List.range n).map fun t : Nat => dosOf cs w t
theorem rowsOf_nil (cs : List Cl) (n : Nat) : rowsOf cs n [] = List.replicate n [] := by
  unfold rowsOf
  rw [List.eq_replicate_iff]
  refine ⟨by simp, fun x hx => ?_⟩
  obtain ⟨t, _, rfl⟩ := List.mem_map.1 hx
  rfl
theorem rowsOf_len (cs : List Cl) (n : Nat) (w : List Stp) : (rowsOf cs n w).length = n := by simp [rowsOf]
theorem rowsOf_at {cs : List Cl} {n t : Nat} {w : List Stp} (h : t < (rowsOf cs n w).length) : (rowsOf cs n w)[t] = dosOf cs w t := by simp [rowsOf]
theorem rowsOf_snoc {cs : List Cl} {n : Nat} {w : List Stp} {s : Stp} (h0 : 0 ≤ (callAt cs s.call.toNat).thing) : rowsOf cs n (w ++ [s]) = (rowsOf cs n w).set (callAt cs s.call.toNat).thing.toNat (dosOf cs w (callAt cs s.call.toNat).thing.toNat ++ [doOf cs s]) := by
  apply List.ext_getElem
  · simp [rowsOf]
  · intro t h1 h2
    rw [rowsOf_at h1, List.getElem_set]
    split
    · rename_i e
      subst e
      have e2 : (((callAt cs s.call.toNat).thing.toNat : Nat) : Int) = (callAt cs s.call.toNat).thing := by omega
      simp [dosOf, List.filter_append, List.filter_cons, ofThing, e2]
    · rename_i e
      rw [rowsOf_at]
      have e2 : ¬ (callAt cs s.call.toNat).thing = (t : Int) := by omega
      simp [dosOf, List.filter_append, List.filter_cons, ofThing, e2]
theorem dosOf_len (cs : List Cl) (w : List Stp) (t : Int) : (dosOf cs w t).length ≤ w.length := by
  unfold dosOf; rw [List.length_map]; exact List.length_filter_le _ _
/-- as many are placed as were gone through -/
theorem seq_len {cs : List Cl} {w : List Stp} : ∀ {k : Nat}, k ≤ w.length → (∀ i (h : i < w.length), i < k → okR cs (maskW (w.take i)) w[i] = true) → k + unset cs.length (maskW (w.take k)) = cs.length
  | 0, _, _ => by simp [maskW, unset_0]
  | k + 1, hk, h => by
    have ih := seq_len (k := k) (by omega) (fun i hi hik => h i hi (by omega))
    obtain ⟨_, h2, h3, _⟩ := okR_parts (h k (by omega) (by omega))
    rw [List.take_succ_eq_append_getElem (by omega), maskW_snoc]
    have := unset_put h2 h3
    omega
theorem playN_le (typ : Int) : ∀ (l : List Dn) (s : List Int), playN typ s l ≤ l.length
  | [], _ => by simp [playN]
  | d :: l, s => by
    rw [playN]
    have := playN_le typ l (stepO typ s d.kind d.arg).1
    split <;> simp <;> omega
section
variable (T B D : Option Addr) (tc d dc : Nat) (ts : List Int) (cs : List Cl) (n : Int) (f : Nat → Nat) (w : List Stp) (W : World)
variable (hts : typesOk ts = true) (hcs : CallsOk ts cs) (h9 : cs.length ≤ 9) (hf16 : ∀ i, i < 12 → f i < 65536) (hT : RdInt W T ts) (hB : RdCl W B cs) (hD : RdStp W D w) (hwl : w.length ≤ 9223372036854775807)
include hts hcs h9 hf16 hT hB hD hwl
set_option maxRecDepth 100000 in
set_option maxHeartbeats 4000000 in
theorem valid_any : Calls Try.prog 114 #[.slice T ts.length tc, .slice B cs.length d, .agg (relCells n f), .slice D w.length dc] W fun e W' => e = .returned (.bool (validW ts cs f w)) ∧ Below W.heap.size W W' := by
  have ht4 : 1 ≤ ts.length ∧ ts.length ≤ 4 := by
    unfold typesOk at hts
    rw [Bool.and_eq_true, decide_eq_true_eq] at hts
    exact hts.1
  refine calls_T (S := []) [] Try.func114 rfl Try.ntmps114 (by simp) (Mem.nil _) ?_
  repeat' (first | ((first | with_reducible (first | apply TL_q | apply TD_q0 | apply TD_q1 | apply TD_q2 | apply TD_q3) | ((with_reducible (first | apply TD_q0y | apply TD_q1y)); exact rfl; exact rfl; (with_reducible exact rfl))); (first | ((with_reducible apply QS_load); exact rfl; exact Lds.own1 (enc := hdEnc) (by first | ((repeat (first | with_reducible exact List.mem_cons_self | with_reducible apply List.mem_cons_of_mem)); done) | (repeat (first | exact List.Mem.head _ | apply List.Mem.tail))) (fun _ => rfl) hjl hhead) | exact QS.auto | ((with_reducible apply QS_shr16Z); exact rfl; exact rfl; omega; (first | assumption | omega | decide | exact Nat.lt_of_le_of_lt (Nat.shiftRight_le _ _) (by first | assumption | omega) | (apply_assumption <;> omega))) | ((with_reducible apply QS_shl16Y); exact rfl; exact rfl; omega; omega)); exact rfl) | ((with_reducible (first | apply TD_e2z | apply TD_e3z | apply TL_e | apply TD_e2 | apply TD_e3)); (first | exact ES.auto | ((with_reducible apply ES_makeSlice (enc := hdEnc) (z0 := hd0)); exact rfl; exact rfl; exact rfl; (first | omega | (simp; omega)); decide; exact rfl)); (first | exact rfl | exact ⟨rfl, rfl, rfl⟩); (first | (rintro _ _ ⟨rfl, rfl⟩) | (rintro _ _ ⟨g, rfl, rfl⟩) | (rintro _ _ ⟨A', c', rfl, rfl⟩)); (try refine ⟨SUB, ?_⟩)) | (refine GO ?_) | (refine GOE ?_; (first | (rintro _ _ ⟨rfl, rfl⟩) | (rintro _ _ ⟨g, rfl, rfl⟩) | (rintro _ _ ⟨A', c', rfl, rfl⟩))) | ((refine GO2 ?_ ?_) <;> intro h <;> (try (repeat (first | with_reducible (replace h := of_decide_eq_true h) | with_reducible (replace h := of_decide_eq_false h) | with_reducible (replace h := bnt h) | with_reducible (replace h := bnf h) | with_reducible (replace h := Int.not_lt.mp h) | with_reducible (replace h := Int.not_le.mp h) | with_reducible (replace h := band_dec h) | with_reducible (replace h := band_decF h) | with_reducible (replace h := bor_dec h) | with_reducible (replace h := bor_decF h)))) <;> (try (exfalso; first | contradiction | omega))) | fail)
  rename_i g6
  obtain ⟨gL, rfl⟩ : ∃ x, x = g := ⟨_, rfl⟩
  refine T_loop (X := Nat × List Hd) (fun x => [(25, .int .i64 (x.1 : Nat)), (24, .int .i64 w.length), (23, .slice D w.length dc), (10, .slice (some ⟨gL, 0, none⟩) ts.length ts.length), (9, .int .u16 (maskW (w.take x.1) : Nat)), (6, .pointer (some ⟨g6, 0, none⟩)), (1, .slice B cs.length d), (0, .slice T ts.length tc)])
    (fun x => [entOwn hdEnc 1 205 (some ⟨gL, 0, none⟩) ts.length x.2, entInner Dn.enc 3 207 x.2 (rowsOf cs ts.length (w.take x.1)), entBlk g6 69 (relCells n f)])
    (fun x => x.1 ≤ w.length ∧ x.2.length = ts.length ∧ ∀ i (h : i < w.length), i < x.1 → okC cs f (maskW (w.take i)) w[i] = true) (fun x => w.length - x.1) (0, List.replicate ts.length hd0) ⟨by (try dsimp only); omega, by simp, fun i h hi => by (try dsimp only at hi); omega⟩ (by (repeat (first | exact SubE.nil _ | refine SubE.cons rfl ?_))) (fun w' hw => ?_) ?_
  · have h1 := hw.emptyRows Dn.enc 3 207 ts.length
    rw [← rowsOf_nil cs] at h1
    exact h1.sel (by repeat (first | exact Sel.nil _ | (apply Sel.cons; (repeat (first | exact Pick.here _ _ | apply Pick.there)))))
  rintro ⟨k, hs⟩ ⟨hk, hsl, hok⟩
  dsimp only at hk hsl hok ⊢
  have hokR : ∀ i (h : i < w.length), i < k → okR cs (maskW (w.take i)) w[i] = true := fun i h hik => by
    have := hok i h hik; unfold okC at this; rw [Bool.and_eq_true] at this; exact this.1
  have hkl9 := seq_len hk hokR
  have hm16 : maskW (w.take k) < 65536 := by
    have : maskW (w.take k) < 2 ^ 9 := by
      refine Nat.lt_pow_two_of_testBit _ fun i hi => ?_
      rw [Bool.eq_false_iff]
      intro hb
      obtain ⟨p, hp, hpk, hpc⟩ := bit_take.1 hb
      have := (okR_parts (hokR p hp hpk)).2.1
      omega
    omega
  by_cases hkl : k < w.length
  · have htk : w.take (k + 1) = w.take k ++ [w[k]] := List.take_succ_eq_append_getElem hkl
    have hvno : okC cs f (maskW (w.take k)) w[k] = false → validW ts cs f w = false := fun h => by
      unfold validW
      have : seqC cs f w = false := by
        rw [Bool.eq_false_iff]; intro hc
        rw [seqC_iff.1 hc k hkl] at h; cases h
      rw [this]; rfl
    obtain ⟨bD, oD, rfl, _⟩ := RdE.open hD (by omega)
    by_cases hin : 0 ≤ w[k].call ∧ w[k].call < cs.length
    · obtain ⟨bB, oB, rfl, _⟩ := RdE.open hB (by omega)
      obtain ⟨bT, oT, rfl, _⟩ := RdE.open hT (by omega)
      have hz0 := hin.1
      have hzn : w[k].call.toNat < cs.length := by omega
      have hcall := callAt_eq hzn
      have hth := hcs _ hzn
      rw [hcall] at hth
      have hth0 := hth.1
      have hzO := bitO (maskW (w.take k)) w[k].call.toNat
      have hfi := hf16 w[k].call.toNat (by omega)
      have hjl : cs[w[k].call.toNat].thing.toNat < hs.length := by omega
      have hjr : cs[w[k].call.toNat].thing.toNat < (rowsOf cs ts.length (w.take k)).length := by rw [rowsOf_len]; omega
      refine T_fact (p := hs[cs[w[k].call.toNat].thing.toNat].n = (rowsOf cs ts.length (w.take k))[cs[w[k].call.toNat].thing.toNat].length) (fun w' hw => (hw.innerRd (enc := Dn.enc) (M := 3) (e := 207) (by first | ((repeat (first | with_reducible exact List.mem_cons_self | with_reducible apply List.mem_cons_of_mem)); done) | (repeat (first | exact List.Mem.head _ | apply List.Mem.tail))) (fun _ => rfl) hjl hjr).1) fun hn => ?_
      obtain ⟨aR, cR, hh⟩ : ∃ aR cR, hs[cs[w[k].call.toNat].thing.toNat] = ⟨aR, (rowsOf cs ts.length (w.take k))[cs[w[k].call.toNat].thing.toNat].length, cR⟩ := ⟨hs[cs[w[k].call.toNat].thing.toNat].a, hs[cs[w[k].call.toNat].thing.toNat].c, by rw [← hn]⟩
      have hhead : (hdEnc hs[cs[w[k].call.toNat].thing.toNat])[0]? = some (.slice aR (rowsOf cs ts.length (w.take k))[cs[w[k].call.toNat].thing.toNat].length cR) := by rw [hh]; rfl
      have hrl : (rowsOf cs ts.length (w.take k))[cs[w[k].call.toNat].thing.toNat].length ≤ 9 := by
        rw [rowsOf_at]
        have := dosOf_len cs (w.take k) cs[w[k].call.toNat].thing.toNat
        rw [List.length_take] at this; omega
      have hsn := rowsOf_snoc (cs := cs) (n := ts.length) (w := w.take k) (s := w[k]) (by rw [hcall]; exact hth0)
      rw [← htk, hcall] at hsn
      have hrow := rowsOf_at (cs := cs) (n := ts.length) (w := w.take k) hjr
      have hdo : doOf cs w[k] = ⟨cs[w[k].call.toNat].kind, cs[w[k].call.toNat].arg, w[k].res⟩ := by unfold doOf; rw [hcall]
      have hpow : 2 ^ w[k].call.toNat < 65536 := Nat.lt_of_le_of_lt (Nat.pow_le_pow_right (n := 2) (by decide) (show w[k].call.toNat ≤ 9 by omega)) (by decide)
      have hinB : inB cs w[k] = true := by unfold inB; simp [hin.1, hin.2]
      have hmask := maskW_snoc (w.take k) w[k]
      rw [← htk] at hmask
      refine T_mem (S' := entOwn Dn.enc 3 207 aR cR (rowsOf cs ts.length (w.take k))[cs[w[k].call.toNat].thing.toNat] :: [entOwn hdEnc 1 205 (some ⟨gL, 0, none⟩) ts.length hs, entInner Dn.enc 3 207 (hs.set cs[w[k].call.toNat].thing.toNat hd0) ((rowsOf cs ts.length (w.take k)).set cs[w[k].call.toNat].thing.toNat []), entBlk g6 69 (relCells n f)]) (fun w' hw => by
        have h1 := Mem.takeRow hjl hjr (by first | ((repeat (first | with_reducible exact Upd.here _ _ _ | with_reducible apply Upd.there)); done) | (repeat (first | exact Upd.here _ _ _ | apply Upd.there))) hw
        rw [hh] at h1
        exact h1) ?_
      repeat' (first | ((first | with_reducible (first | apply TL_q | apply TD_q0 | apply TD_q1 | apply TD_q2 | apply TD_q3) | ((with_reducible (first | apply TD_q0y | apply TD_q1y)); exact rfl; exact rfl; (with_reducible exact rfl))); (first | ((with_reducible apply QS_load); exact rfl; exact Lds.own1 (enc := hdEnc) (by first | ((repeat (first | with_reducible exact List.mem_cons_self | with_reducible apply List.mem_cons_of_mem)); done) | (repeat (first | exact List.Mem.head _ | apply List.Mem.tail))) (fun _ => rfl) hjl hhead) | exact QS.auto | ((with_reducible apply QS_shr16Z); exact rfl; exact rfl; omega; (first | assumption | omega | decide | exact Nat.lt_of_le_of_lt (Nat.shiftRight_le _ _) (by first | assumption | omega) | (apply_assumption <;> omega))) | ((with_reducible apply QS_shl16Y); exact rfl; exact rfl; omega; omega)); exact rfl) | ((with_reducible (first | apply TD_e2z | apply TD_e3z | apply TL_e | apply TD_e2 | apply TD_e3)); (first | exact ES.auto | ((with_reducible apply ES_makeSlice (enc := hdEnc) (z0 := hd0)); exact rfl; exact rfl; exact rfl; (first | omega | (simp; omega)); decide; exact rfl)); (first | exact rfl | exact ⟨rfl, rfl, rfl⟩); (first | (rintro _ _ ⟨rfl, rfl⟩) | (rintro _ _ ⟨g, rfl, rfl⟩) | (rintro _ _ ⟨A', c', rfl, rfl⟩)); (try refine ⟨SUB, ?_⟩)) | (refine GG ?_) | (refine GE ?_; (first | (rintro _ _ ⟨rfl, rfl⟩) | (rintro _ _ ⟨g, rfl, rfl⟩) | (rintro _ _ ⟨A', c', rfl, rfl⟩)); (try refine ⟨SUB, ?_⟩)) | ((refine GO2 ?_ ?_) <;> intro h <;> (try (repeat (first | with_reducible (replace h := of_decide_eq_true h) | with_reducible (replace h := of_decide_eq_false h) | with_reducible (replace h := bnt h) | with_reducible (replace h := bnf h) | with_reducible (replace h := Int.not_lt.mp h) | with_reducible (replace h := Int.not_le.mp h) | with_reducible (replace h := band_dec h) | with_reducible (replace h := band_decF h) | with_reducible (replace h := bor_dec h) | with_reducible (replace h := bor_decF h)))) <;> (try (exfalso; first | contradiction | omega))) | (refine GOF ?_ ?_) | ((with_reducible apply T_draw (id := 12) 16 (OT.seq [(0, 0), (0, 1), (0, 3), (0, 4), (0, 8), (0, 10), (0, 12), (1, 5), (0, 6), (1, 7), (1, 9), (1, 11), (1, 13), (0, 14)] (.fork (OT.seq [(2, 2), (2, 15), (3, 16), (0, 17), (3, 18)] .nil) (OT.seq [(2, 15)] (.fork (OT.seq [(2, 2), (3, 16), (0, 17), (3, 18)] .nil) (OT.seq [(3, 16), (3, 2), (0, 17), (3, 18)] .nil)))))); kernel_rfl; exact rfl; kernel_rfl; (repeat (first | with_reducible exact Blind.body | with_reducible apply Blind.seq | with_reducible apply Blind.block))) | ((with_reducible (first | apply TD_e2z | apply TD_e3z | apply TL_e | apply TD_e2 | apply TD_e3)); ((with_reducible apply ES_append1 (enc := Dn.enc) (xx := (⟨cs[w[k].call.toNat].kind, cs[w[k].call.toNat].arg, w[k].res⟩ : Dn))); exact rfl; exact rfl; (repeat (first | with_reducible exact List.mem_cons_self | with_reducible apply List.mem_cons_of_mem)); exact rfl; exact fun _ => rfl; exact fun _ => rfl; (intro A' c'; first | ((repeat (first | with_reducible exact Upd.here _ _ _ | with_reducible apply Upd.there)); done) | (repeat (first | exact Upd.here _ _ _ | apply Upd.there))); (omega); decide; exact rfl); (first | exact rfl | exact ⟨rfl, rfl, rfl⟩); (rintro _ _ ⟨A', c', rfl, rfl⟩); (try refine ⟨SUB, ?_⟩)) | ((with_reducible (first | apply TD_e2z | apply TD_e3z | apply TL_e | apply TD_e2 | apply TD_e3)); ((with_reducible apply ES_storeOwn1 (xx := (⟨A', (rowsOf cs ts.length (w.take k))[cs[w[k].call.toNat].thing.toNat].length + 1, c'⟩ : Hd))); exact rfl; exact rfl; (first | ((repeat (first | with_reducible exact Upd.here _ _ _ | with_reducible apply Upd.there)); done) | (repeat (first | exact Upd.here _ _ _ | apply Upd.there))); exact fun _ => rfl; exact List.getElem?_eq_getElem hjl; exact (by rw [List.length_append]; rfl); exact rfl); (first | exact rfl | exact ⟨rfl, rfl, rfl⟩); (rintro _ _ ⟨rfl, rfl⟩); (try refine ⟨SUB, ?_⟩)) | fail)
      · (refine At_ret Try.results114 rfl (fun w' hw => ?_))
        have hb := hzO.1 (by assumption)
        exact ⟨by rw [hvno (by unfold okC okR; rw [hb]; simp)]; rfl, hw.below0 rfl⟩
      · (refine At_ret Try.results114 rfl (fun w' hw => ?_))
        have hb : ¬ f w[k].call.toNat &&& maskW (w.take k) = 0 := by omega
        exact ⟨by rw [hvno (by unfold okC; simp [hb])]; rfl, hw.below0 rfl⟩
      · (refine At_ret Try.results114 rfl (fun w' hw => ?_))
        have hb : resOk cs w[k] = false := by
          unfold resOk; rw [hcall]
          rw [Bool.or_eq_false_iff]
          exact ⟨decide_eq_false (by assumption), decide_eq_false (by assumption)⟩
        exact ⟨by rw [hvno (by unfold okC okR; rw [hb]; simp)]; rfl, hw.below0 rfl⟩
      all_goals
        have hb0 : (maskW (w.take k)).testBit w[k].call.toNat = false := by
          cases hb : (maskW (w.take k)).testBit w[k].call.toNat with
          | false => rfl
          | true => exact absurd (hzO.2 hb) (by assumption)
        have hf0 : f w[k].call.toNat &&& maskW (w.take k) = 0 := by omega
        have hres : resOk cs w[k] = true := by
          unfold resOk; rw [hcall, Bool.or_eq_true]
          first | exact .inl (decide_eq_true (by assumption)) | exact .inr (decide_eq_true (by assumption))
        have hokk : okC cs f (maskW (w.take k)) w[k] = true := by
          unfold okC okR
          rw [hinB, hb0, hres, decide_eq_true hf0]; rfl
        apply At_rounds (k + 1, hs.set cs[w[k].call.toNat].thing.toNat ⟨A', (rowsOf cs ts.length (w.take k))[cs[w[k].call.toNat].thing.toNat].length + 1, c'⟩)
        case hE =>
          dsimp only
          rw [hmask]
          (repeat (first | exact SubE.nil _ | refine SubE.cons rfl ?_))
        case hS =>
          intro w' hw
          have h1 := Mem.putRow (A := A') (c := c') (l := (rowsOf cs ts.length (w.take k))[cs[w[k].call.toNat].thing.toNat] ++ [(⟨cs[w[k].call.toNat].kind, cs[w[k].call.toNat].arg, w[k].res⟩ : Dn)]) (j := cs[w[k].call.toNat].thing.toNat) (by repeat (first | exact Pick.here _ _ | apply Pick.there)) (by first | ((repeat (first | with_reducible exact Upd.here _ _ _ | with_reducible apply Upd.there)); done) | (repeat (first | exact Upd.here _ _ _ | apply Upd.there))) hw
          rw [List.set_set, List.set_set, List.length_append, List.length_singleton] at h1
          dsimp only
          rw [hsn, ← hrow, hdo]
          exact h1.sel (by (repeat (first | exact Sel.nil _ | (apply Sel.cons; (repeat (first | with_reducible exact Pick.here _ _ | with_reducible apply Pick.there))))))
        case hμ => (try dsimp only); omega
        case hp =>
          refine ⟨hkl, by (try dsimp only); rw [List.length_set]; exact hsl, fun i hi hik => ?_⟩
          (try dsimp only at hik)
          by_cases e : i = k
          · subst e; exact hokk
          · exact hok i hi (by omega)
    · repeat' (first | ((first | with_reducible (first | apply TL_q | apply TD_q0 | apply TD_q1 | apply TD_q2 | apply TD_q3) | ((with_reducible (first | apply TD_q0y | apply TD_q1y)); exact rfl; exact rfl; (with_reducible exact rfl))); (first | ((with_reducible apply QS_load); exact rfl; exact Lds.own1 (enc := hdEnc) (by first | ((repeat (first | with_reducible exact List.mem_cons_self | with_reducible apply List.mem_cons_of_mem)); done) | (repeat (first | exact List.Mem.head _ | apply List.Mem.tail))) (fun _ => rfl) hjl hhead) | exact QS.auto | ((with_reducible apply QS_shr16Z); exact rfl; exact rfl; omega; (first | assumption | omega | decide | exact Nat.lt_of_le_of_lt (Nat.shiftRight_le _ _) (by first | assumption | omega) | (apply_assumption <;> omega))) | ((with_reducible apply QS_shl16Y); exact rfl; exact rfl; omega; omega)); exact rfl) | ((with_reducible (first | apply TD_e2z | apply TD_e3z | apply TL_e | apply TD_e2 | apply TD_e3)); (first | exact ES.auto | ((with_reducible apply ES_makeSlice (enc := hdEnc) (z0 := hd0)); exact rfl; exact rfl; exact rfl; (first | omega | (simp; omega)); decide; exact rfl)); (first | exact rfl | exact ⟨rfl, rfl, rfl⟩); (first | (rintro _ _ ⟨rfl, rfl⟩) | (rintro _ _ ⟨g, rfl, rfl⟩) | (rintro _ _ ⟨A', c', rfl, rfl⟩)); (try refine ⟨SUB, ?_⟩)) | (refine GG ?_) | (refine GE ?_; (first | (rintro _ _ ⟨rfl, rfl⟩) | (rintro _ _ ⟨g, rfl, rfl⟩) | (rintro _ _ ⟨A', c', rfl, rfl⟩)); (try refine ⟨SUB, ?_⟩)) | ((refine GO2 ?_ ?_) <;> intro h <;> (try (repeat (first | with_reducible (replace h := of_decide_eq_true h) | with_reducible (replace h := of_decide_eq_false h) | with_reducible (replace h := bnt h) | with_reducible (replace h := bnf h) | with_reducible (replace h := Int.not_lt.mp h) | with_reducible (replace h := Int.not_le.mp h) | with_reducible (replace h := band_dec h) | with_reducible (replace h := band_decF h) | with_reducible (replace h := bor_dec h) | with_reducible (replace h := bor_decF h)))) <;> (try (exfalso; first | contradiction | omega))) | (refine GOF ?_ ?_) | ((with_reducible apply T_draw (id := 12) 16 (OT.seq [(0, 0), (0, 1), (0, 3), (0, 4), (0, 8), (0, 10), (0, 12), (1, 5), (0, 6), (1, 7), (1, 9), (1, 11), (1, 13), (0, 14)] (.fork (OT.seq [(2, 2), (2, 15), (3, 16), (0, 17), (3, 18)] .nil) (OT.seq [(2, 15)] (.fork (OT.seq [(2, 2), (3, 16), (0, 17), (3, 18)] .nil) (OT.seq [(3, 16), (3, 2), (0, 17), (3, 18)] .nil)))))); kernel_rfl; exact rfl; kernel_rfl; (repeat (first | with_reducible exact Blind.body | with_reducible apply Blind.seq | with_reducible apply Blind.block))) | fail)
      all_goals
        (refine At_ret Try.results114 rfl (fun w' hw => ?_))
        have hb : inB cs w[k] = false := by
          unfold inB
          rw [Bool.and_eq_false_iff]
          first | exact .inl (decide_eq_false (by omega)) | exact .inr (decide_eq_false (by omega))
        exact ⟨by rw [hvno (by unfold okC okR; rw [hb]; simp)]; rfl, hw.below0 rfl⟩
  · obtain rfl : k = w.length := by omega
    rw [List.take_length]
    repeat' (first | ((first | with_reducible (first | apply TL_q | apply TD_q0 | apply TD_q1 | apply TD_q2 | apply TD_q3) | ((with_reducible (first | apply TD_q0y | apply TD_q1y)); exact rfl; exact rfl; (with_reducible exact rfl))); (first | ((with_reducible apply QS_load); exact rfl; exact Lds.own1 (enc := hdEnc) (by first | ((repeat (first | with_reducible exact List.mem_cons_self | with_reducible apply List.mem_cons_of_mem)); done) | (repeat (first | exact List.Mem.head _ | apply List.Mem.tail))) (fun _ => rfl) hjl hhead) | exact QS.auto | ((with_reducible apply QS_shr16Z); exact rfl; exact rfl; omega; (first | assumption | omega | decide | exact Nat.lt_of_le_of_lt (Nat.shiftRight_le _ _) (by first | assumption | omega) | (apply_assumption <;> omega))) | ((with_reducible apply QS_shl16Y); exact rfl; exact rfl; omega; omega)); exact rfl) | ((with_reducible (first | apply TD_e2z | apply TD_e3z | apply TL_e | apply TD_e2 | apply TD_e3)); (first | exact ES.auto | ((with_reducible apply ES_makeSlice (enc := hdEnc) (z0 := hd0)); exact rfl; exact rfl; exact rfl; (first | omega | (simp; omega)); decide; exact rfl)); (first | exact rfl | exact ⟨rfl, rfl, rfl⟩); (first | (rintro _ _ ⟨rfl, rfl⟩) | (rintro _ _ ⟨g, rfl, rfl⟩) | (rintro _ _ ⟨A', c', rfl, rfl⟩)); (try refine ⟨SUB, ?_⟩)) | (refine GG ?_) | (refine GE ?_; (first | (rintro _ _ ⟨rfl, rfl⟩) | (rintro _ _ ⟨g, rfl, rfl⟩) | (rintro _ _ ⟨A', c', rfl, rfl⟩)); (try refine ⟨SUB, ?_⟩)) | ((refine GO2 ?_ ?_) <;> intro h <;> (try (repeat (first | with_reducible (replace h := of_decide_eq_true h) | with_reducible (replace h := of_decide_eq_false h) | with_reducible (replace h := bnt h) | with_reducible (replace h := bnf h) | with_reducible (replace h := Int.not_lt.mp h) | with_reducible (replace h := Int.not_le.mp h) | with_reducible (replace h := band_dec h) | with_reducible (replace h := band_decF h) | with_reducible (replace h := bor_dec h) | with_reducible (replace h := bor_decF h)))) <;> (try (exfalso; first | contradiction | omega))) | (refine GOF ?_ ?_) | ((with_reducible apply T_draw (id := 12) 16 (OT.seq [(0, 0), (0, 1), (0, 3), (0, 4), (0, 8), (0, 10), (0, 12), (1, 5), (0, 6), (1, 7), (1, 9), (1, 11), (1, 13), (0, 14)] (.fork (OT.seq [(2, 2), (2, 15), (3, 16), (0, 17), (3, 18)] .nil) (OT.seq [(2, 15)] (.fork (OT.seq [(2, 2), (3, 16), (0, 17), (3, 18)] .nil) (OT.seq [(3, 16), (3, 2), (0, 17), (3, 18)] .nil)))))); kernel_rfl; exact rfl; kernel_rfl; (repeat (first | with_reducible exact Blind.body | with_reducible apply Blind.seq | with_reducible apply Blind.block))) | fail)
    have hseq : seqC cs f w = true := seqC_iff.2 fun i hi => hok i hi hi
    rw [List.take_length] at hm16
    have hval : validW ts cs f w = (compW cs w && playsB ts cs w) := by unfold validW; rw [hseq]; simp
    rw [hval]
    have hcompW : compW cs w = compM cs (maskW w) := rfl
    refine T_loop (X := Nat) (fun k => [(100, .int .i64 (k : Nat)), (99, .int .i64 cs.length), (98, .slice B cs.length d), (9, .int .u16 (maskW w : Nat)), (10, .slice (some ⟨gL, 0, none⟩) ts.length ts.length), (0, .slice T ts.length tc)])
      (fun _ => [entOwn hdEnc 1 205 (some ⟨gL, 0, none⟩) ts.length hs, entInner Dn.enc 3 207 hs (rowsOf cs ts.length w)])
      (fun k => k ≤ cs.length ∧ ∀ i, i < k → (callAt cs i).to ≠ -1 → (maskW w).testBit i = true) (fun k => cs.length - k) 0 ⟨by omega, fun i hi => by omega⟩ (by (repeat (first | exact SubE.nil _ | refine SubE.cons rfl ?_))) (by exact SUBS) ?_
    rintro k ⟨hk, hno⟩
    by_cases hkl : k < cs.length
    · obtain ⟨b, o, rfl, _⟩ := RdE.open hB (by omega)
      have hc := callAt_eq hkl
      have hz := bitZ (maskW w) k
      repeat' (first | ((first | with_reducible (first | apply TL_q | apply TD_q0 | apply TD_q1 | apply TD_q2 | apply TD_q3) | ((with_reducible (first | apply TD_q0y | apply TD_q1y)); exact rfl; exact rfl; (with_reducible exact rfl))); (first | ((with_reducible apply QS_load); exact rfl; exact Lds.own1 (enc := hdEnc) (by first | ((repeat (first | with_reducible exact List.mem_cons_self | with_reducible apply List.mem_cons_of_mem)); done) | (repeat (first | exact List.Mem.head _ | apply List.Mem.tail))) (fun _ => rfl) hjl hhead) | exact QS.auto | ((with_reducible apply QS_shr16Z); exact rfl; exact rfl; omega; (first | assumption | omega | decide | exact Nat.lt_of_le_of_lt (Nat.shiftRight_le _ _) (by first | assumption | omega) | (apply_assumption <;> omega))) | ((with_reducible apply QS_shl16Y); exact rfl; exact rfl; omega; omega)); exact rfl) | ((with_reducible (first | apply TD_e2z | apply TD_e3z | apply TL_e | apply TD_e2 | apply TD_e3)); (first | exact ES.auto | ((with_reducible apply ES_makeSlice (enc := hdEnc) (z0 := hd0)); exact rfl; exact rfl; exact rfl; (first | omega | (simp; omega)); decide; exact rfl)); (first | exact rfl | exact ⟨rfl, rfl, rfl⟩); (first | (rintro _ _ ⟨rfl, rfl⟩) | (rintro _ _ ⟨g, rfl, rfl⟩) | (rintro _ _ ⟨A', c', rfl, rfl⟩)); (try refine ⟨SUB, ?_⟩)) | (refine GO ?_) | (refine GOE ?_; (first | (rintro _ _ ⟨rfl, rfl⟩) | (rintro _ _ ⟨g, rfl, rfl⟩) | (rintro _ _ ⟨A', c', rfl, rfl⟩))) | ((refine GO2 ?_ ?_) <;> intro h <;> (try (repeat (first | with_reducible (replace h := of_decide_eq_true h) | with_reducible (replace h := of_decide_eq_false h) | with_reducible (replace h := bnt h) | with_reducible (replace h := bnf h) | with_reducible (replace h := Int.not_lt.mp h) | with_reducible (replace h := Int.not_le.mp h) | with_reducible (replace h := band_dec h) | with_reducible (replace h := band_decF h) | with_reducible (replace h := bor_dec h) | with_reducible (replace h := bor_decF h)))) <;> (try (exfalso; first | contradiction | omega))) | fail)
      · (refine At_ret Try.results114 rfl (fun w' hw => ?_))
        have hb := hz.1 (by assumption)
        have : compM cs (maskW w) = false := by
          rw [Bool.eq_false_iff]
          intro h
          have := compM_iff.1 h k hkl (by rw [hc]; assumption)
          rw [hb] at this; cases this
        exact ⟨by rw [hcompW, this]; rfl, hw.below0 rfl⟩
      · refine At_rounds (k + 1) ⟨hkl, fun i hi ht => ?_⟩ (by omega) (by (repeat (first | exact SubE.nil _ | refine SubE.cons rfl ?_))) (by exact SUBS)
        by_cases e : i = k
        · subst e
          cases hb : (maskW w).testBit i with
          | true => rfl
          | false => exact absurd (hz.2 hb) (by assumption)
        · exact hno i (by omega) ht
      · refine At_rounds (k + 1) ⟨hkl, fun i hi ht => ?_⟩ (by omega) (by (repeat (first | exact SubE.nil _ | refine SubE.cons rfl ?_))) (by exact SUBS)
        by_cases e : i = k
        · subst e; exact absurd (by rw [hc]; assumption) ht
        · exact hno i (by omega) ht
    · obtain rfl : k = cs.length := by omega
      have hcm : compM cs (maskW w) = true := compM_iff.2 hno
      repeat' (first | ((first | with_reducible (first | apply TL_q | apply TD_q0 | apply TD_q1 | apply TD_q2 | apply TD_q3) | ((with_reducible (first | apply TD_q0y | apply TD_q1y)); exact rfl; exact rfl; (with_reducible exact rfl))); (first | ((with_reducible apply QS_load); exact rfl; exact Lds.own1 (enc := hdEnc) (by first | ((repeat (first | with_reducible exact List.mem_cons_self | with_reducible apply List.mem_cons_of_mem)); done) | (repeat (first | exact List.Mem.head _ | apply List.Mem.tail))) (fun _ => rfl) hjl hhead) | exact QS.auto | ((with_reducible apply QS_shr16Z); exact rfl; exact rfl; omega; (first | assumption | omega | decide | exact Nat.lt_of_le_of_lt (Nat.shiftRight_le _ _) (by first | assumption | omega) | (apply_assumption <;> omega))) | ((with_reducible apply QS_shl16Y); exact rfl; exact rfl; omega; omega)); exact rfl) | ((with_reducible (first | apply TD_e2z | apply TD_e3z | apply TL_e | apply TD_e2 | apply TD_e3)); (first | exact ES.auto | ((with_reducible apply ES_makeSlice (enc := hdEnc) (z0 := hd0)); exact rfl; exact rfl; exact rfl; (first | omega | (simp; omega)); decide; exact rfl)); (first | exact rfl | exact ⟨rfl, rfl, rfl⟩); (first | (rintro _ _ ⟨rfl, rfl⟩) | (rintro _ _ ⟨g, rfl, rfl⟩) | (rintro _ _ ⟨A', c', rfl, rfl⟩)); (try refine ⟨SUB, ?_⟩)) | (refine GO ?_) | (refine GOE ?_; (first | (rintro _ _ ⟨rfl, rfl⟩) | (rintro _ _ ⟨g, rfl, rfl⟩) | (rintro _ _ ⟨A', c', rfl, rfl⟩))) | ((refine GO2 ?_ ?_) <;> intro h <;> (try (repeat (first | with_reducible (replace h := of_decide_eq_true h) | with_reducible (replace h := of_decide_eq_false h) | with_reducible (replace h := bnt h) | with_reducible (replace h := bnf h) | with_reducible (replace h := Int.not_lt.mp h) | with_reducible (replace h := Int.not_le.mp h) | with_reducible (replace h := band_dec h) | with_reducible (replace h := band_decF h) | with_reducible (replace h := bor_dec h) | with_reducible (replace h := bor_decF h)))) <;> (try (exfalso; first | contradiction | omega))) | fail)
      rw [hcompW, hcm, Bool.true_and]
      refine T_loop (X := Nat) (fun k => [(119, .int .i64 (k : Nat)), (118, .int .i64 ts.length), (117, .slice (some ⟨gL, 0, none⟩) ts.length ts.length), (0, .slice T ts.length tc)])
        (fun _ => [entOwn hdEnc 1 205 (some ⟨gL, 0, none⟩) ts.length hs, entInner Dn.enc 3 207 hs (rowsOf cs ts.length w)])
        (fun k => k ≤ ts.length ∧ ∀ i, i < k → playsAt ts cs w i = true) (fun k => ts.length - k) 0 ⟨by omega, fun i hi => by omega⟩ (by (repeat (first | exact SubE.nil _ | refine SubE.cons rfl ?_))) (by exact SUBS) ?_
      rintro k ⟨hk, hno⟩
      by_cases hkl : k < ts.length
      · obtain ⟨b, o, rfl, _⟩ := RdE.open hT (by omega)
        have hjl : k < hs.length := by omega
        have hjr : k < (rowsOf cs ts.length w).length := by rw [rowsOf_len]; omega
        refine T_fact (p := hs[k].n = (rowsOf cs ts.length w)[k].length) (fun w' hw => (hw.innerRd (enc := Dn.enc) (M := 3) (e := 207) (by first | ((repeat (first | with_reducible exact List.mem_cons_self | with_reducible apply List.mem_cons_of_mem)); done) | (repeat (first | exact List.Mem.head _ | apply List.Mem.tail))) (fun _ => rfl) hjl hjr).1) fun hn => ?_
        have hrow := rowsOf_at (cs := cs) (n := ts.length) (w := w) hjr
        rw [hrow] at hn
        obtain ⟨aR, cR, hh⟩ : ∃ aR cR, hs[k] = ⟨aR, (dosOf cs w k).length, cR⟩ := ⟨hs[k].a, hs[k].c, by rw [← hn]⟩
        have hhead : (hdEnc hs[k])[0]? = some (.slice aR (dosOf cs w k).length cR) := by rw [hh]; rfl
        have hrd : ∀ {C : Ctx} {S : List Ent} {W' : World}, Mem C W' S → entInner Dn.enc 3 207 hs (rowsOf cs ts.length w) ∈ S → RdDo W' aR (dosOf cs w k) := fun hw hm => by
          have := (hw.innerRd hm (fun _ => rfl) hjl hjr).2
          rw [hh, hrow] at this; exact this
        have hty : typB ts[k] = true := by
          unfold typesOk at hts
          rw [Bool.and_eq_true, Bool.not_eq_true'] at hts
          have h2 := List.any_eq_false.1 hts.2 ts[k] (List.getElem_mem hkl)
          unfold badT at h2
          unfold typB
          simp only [decide_eq_true_eq] at h2
          rw [Bool.and_eq_true, decide_eq_true_eq, decide_eq_true_eq]
          omega
        have hlen : (dosOf cs w k).length ≤ 9223372036854775807 := Nat.le_trans (dosOf_len cs w k) hwl
        have hpl := fun (w' : World) (h : RdDo w' aR (dosOf cs w k)) => objPlay_any aR cR (dosOf cs w k) ts[k] w' h hlen
        have hbe : begE ts[k] = 0 := by unfold begE; rw [if_pos hty]
        rw [if_pos hty, hbe] at hpl
        have hpa : playsAt ts cs w k = decide (playN ts[k] (begL ts[k]) (dosOf cs w k) = (dosOf cs w k).length) := by
          unfold playsAt
          rw [show ts.getD k 0 = ts[k] by simp [List.getD_eq_getElem?_getD, hkl]]
        have hple := playN_le ts[k] (dosOf cs w k) (begL ts[k])
        generalize playN ts[k] (begL ts[k]) (dosOf cs w k) = N at *
        repeat' (first | ((first | with_reducible (first | apply TL_q | apply TD_q0 | apply TD_q1 | apply TD_q2 | apply TD_q3) | ((with_reducible (first | apply TD_q0y | apply TD_q1y)); exact rfl; exact rfl; (with_reducible exact rfl))); (first | ((with_reducible apply QS_load); exact rfl; exact Lds.own1 (enc := hdEnc) (by first | ((repeat (first | with_reducible exact List.mem_cons_self | with_reducible apply List.mem_cons_of_mem)); done) | (repeat (first | exact List.Mem.head _ | apply List.Mem.tail))) (fun _ => rfl) hjl hhead) | exact QS.auto | ((with_reducible apply QS_shr16Z); exact rfl; exact rfl; omega; (first | assumption | omega | decide | exact Nat.lt_of_le_of_lt (Nat.shiftRight_le _ _) (by first | assumption | omega) | (apply_assumption <;> omega))) | ((with_reducible apply QS_shl16Y); exact rfl; exact rfl; omega; omega)); exact rfl) | ((with_reducible (first | apply TD_e2z | apply TD_e3z | apply TL_e | apply TD_e2 | apply TD_e3)); (first | exact ES.auto | ((with_reducible apply ES_makeSlice (enc := hdEnc) (z0 := hd0)); exact rfl; exact rfl; exact rfl; (first | omega | (simp; omega)); decide; exact rfl)); (first | exact rfl | exact ⟨rfl, rfl, rfl⟩); (first | (rintro _ _ ⟨rfl, rfl⟩) | (rintro _ _ ⟨g, rfl, rfl⟩) | (rintro _ _ ⟨A', c', rfl, rfl⟩)); (try refine ⟨SUB, ?_⟩)) | (refine GO ?_) | (refine GOE ?_; (first | (rintro _ _ ⟨rfl, rfl⟩) | (rintro _ _ ⟨g, rfl, rfl⟩) | (rintro _ _ ⟨A', c', rfl, rfl⟩))) | ((refine GO2 ?_ ?_) <;> intro h <;> (try (repeat (first | with_reducible (replace h := of_decide_eq_true h) | with_reducible (replace h := of_decide_eq_false h) | with_reducible (replace h := bnt h) | with_reducible (replace h := bnf h) | with_reducible (replace h := Int.not_lt.mp h) | with_reducible (replace h := Int.not_le.mp h) | with_reducible (replace h := band_dec h) | with_reducible (replace h := band_decF h) | with_reducible (replace h := bor_dec h) | with_reducible (replace h := bor_decF h)))) <;> (try (exfalso; first | contradiction | omega))) | ((with_reducible (first | apply TD_e2z | apply TD_e3z | apply TL_e | apply TD_e2 | apply TD_e3)); ((with_reducible apply ES_callV (f := 158)); exact rfl; (intro w hw; exact hpl w (hrd hw (by first | ((repeat (first | with_reducible exact List.mem_cons_self | with_reducible apply List.mem_cons_of_mem)); done) | (repeat (first | exact List.Mem.head _ | apply List.Mem.tail))))); exact rfl); (first | exact rfl | exact ⟨rfl, rfl, rfl⟩); (rintro _ _ ⟨rfl, rfl⟩); (try refine ⟨SUB, ?_⟩)) | fail)
        · (refine At_ret Try.results114 rfl (fun w' hw => ?_))
          have : playsB ts cs w = false := by
            rw [Bool.eq_false_iff]
            intro h
            have := List.all_eq_true.1 h k (List.mem_range.2 hkl)
            rw [hpa, decide_eq_true_eq] at this
            omega
          exact ⟨by rw [this]; rfl, hw.below0 rfl⟩
        · refine At_rounds (k + 1) ⟨hkl, fun i hi => ?_⟩ (by omega) (by (repeat (first | exact SubE.nil _ | refine SubE.cons rfl ?_))) (by exact SUBS)
          by_cases e : i = k
          · subst e; rw [hpa]; exact decide_eq_true (by omega)
          · exact hno i (by omega)
      · obtain rfl : k = ts.length := by omega
        repeat' (first | ((first | with_reducible (first | apply TL_q | apply TD_q0 | apply TD_q1 | apply TD_q2 | apply TD_q3) | ((with_reducible (first | apply TD_q0y | apply TD_q1y)); exact rfl; exact rfl; (with_reducible exact rfl))); (first | ((with_reducible apply QS_load); exact rfl; exact Lds.own1 (enc := hdEnc) (by first | ((repeat (first | with_reducible exact List.mem_cons_self | with_reducible apply List.mem_cons_of_mem)); done) | (repeat (first | exact List.Mem.head _ | apply List.Mem.tail))) (fun _ => rfl) hjl hhead) | exact QS.auto | ((with_reducible apply QS_shr16Z); exact rfl; exact rfl; omega; (first | assumption | omega | decide | exact Nat.lt_of_le_of_lt (Nat.shiftRight_le _ _) (by first | assumption | omega) | (apply_assumption <;> omega))) | ((with_reducible apply QS_shl16Y); exact rfl; exact rfl; omega; omega)); exact rfl) | ((with_reducible (first | apply TD_e2z | apply TD_e3z | apply TL_e | apply TD_e2 | apply TD_e3)); (first | exact ES.auto | ((with_reducible apply ES_makeSlice (enc := hdEnc) (z0 := hd0)); exact rfl; exact rfl; exact rfl; (first | omega | (simp; omega)); decide; exact rfl)); (first | exact rfl | exact ⟨rfl, rfl, rfl⟩); (first | (rintro _ _ ⟨rfl, rfl⟩) | (rintro _ _ ⟨g, rfl, rfl⟩) | (rintro _ _ ⟨A', c', rfl, rfl⟩)); (try refine ⟨SUB, ?_⟩)) | (refine GO ?_) | (refine GOE ?_; (first | (rintro _ _ ⟨rfl, rfl⟩) | (rintro _ _ ⟨g, rfl, rfl⟩) | (rintro _ _ ⟨A', c', rfl, rfl⟩))) | ((refine GO2 ?_ ?_) <;> intro h <;> (try (repeat (first | with_reducible (replace h := of_decide_eq_true h) | with_reducible (replace h := of_decide_eq_false h) | with_reducible (replace h := bnt h) | with_reducible (replace h := bnf h) | with_reducible (replace h := Int.not_lt.mp h) | with_reducible (replace h := Int.not_le.mp h) | with_reducible (replace h := band_dec h) | with_reducible (replace h := band_decF h) | with_reducible (replace h := bor_dec h) | with_reducible (replace h := bor_decF h)))) <;> (try (exfalso; first | contradiction | omega))) | fail)
        (refine At_ret Try.results114 rfl (fun w' hw => ?_))
        have : playsB ts cs w = true := List.all_eq_true.2 fun i hi => hno i (List.mem_range.1 hi)
        exact ⟨by rw [this]; rfl, hw.below0 rfl⟩
end
end Go.Proofs.Ytiimjppceobkfaa

namespace Go.Proofs.Ytiimjppceobkfaa
theorem upd_upd (f : Nat → Nat) (i a b : Nat) : upd (upd f i a) i b = upd f i b := by
  funext j; by_cases h : j = i <;> simp [upd, h]
theorem upd_same (f : Nat → Nat) (i a : Nat) : upd f i a i = a := by simp [upd]
theorem pow_lt_16 {m : Nat} (h : m < 16) : 2 ^ m < 65536 := by
  have := Nat.pow_lt_pow_right (a := 2) (by omega) h
  simpa using this
theorem bitsTo_lt_16 (p : Nat → Bool) {m : Nat} (h : m ≤ 16) : bitsTo p m < 65536 := by
  have h1 := bitsTo_lt p m
  have h2 := Nat.pow_le_pow_right (n := 2) (by omega) h
  have : (2 : Nat) ^ 16 = 65536 := by decide
  omega
theorem or_pow (p : Nat → Bool) (m : Nat) : bitsTo p m ||| 2 ^ m = bitsTo p m + 2 ^ m := by
  have := Nat.two_pow_add_eq_or_of_lt (bitsTo_lt p m) 1
  simp only [Nat.mul_one] at this
  rw [Nat.or_comm, ← this, Nat.add_comm]
theorem wrap_pow {m : Nat} (h : m < 16) : IntKind.u16.wrap (2 ^ m) = ((2 ^ m : Nat) : Int) := by
  have := pow_lt_16 h
  have e : ((2 : Int) ^ m) = ((2 ^ m : Nat) : Int) := by simp
  rw [IntKind.wrap_u16, e]
  generalize 2 ^ m = x at *
  omega
theorem or_bit (p : Nat → Bool) {m : Nat} (h : m < 16) (hp : p m = true) : bits BinOp.or IntKind.u16 (bitsTo p m : Nat) (IntKind.u16.wrap (2 ^ m)) = ((bitsTo p (m + 1) : Nat) : Int) := by
  rw [wrap_pow h, u16_or_nat _ _ (bitsTo_lt_16 p (by omega)) (pow_lt_16 h), or_pow]
  simp [bitsTo, hp]
theorem add_bit (p : Nat → Bool) {m : Nat} (h : m < 15) (hp : p m = true) : IntKind.u16.wrap ((bitsTo p m : Nat) + IntKind.u16.wrap (2 ^ m)) = ((bitsTo p (m + 1) : Nat) : Int) := by
  have := bitsTo_lt_16 p (m := m + 1) (by omega)
  rw [wrap_pow (by omega), IntKind.wrap_u16]
  simp only [bitsTo, hp, if_true] at this ⊢
  generalize 2 ^ m = x at *
  generalize bitsTo p m = y at *
  omega


end Go.Proofs.Ytiimjppceobkfaa

namespace Go.Proofs.Ytiimjppceobkfaa
open Go.RowKit
attribute [local go_sem ↓] run_eql_rel run_eqGuard_rel exec_load_rel exec_store_rel
attribute [local go_sem] relCells_size relCells_ones relCells_get0 relCells_getS


theorem tb_rem (x j : Nat) : (((x : Int) / 2 ^ j).tmod 2 == 1) = x.testBit j := by
  have e : ((x : Int) / 2 ^ j) = ((x / 2 ^ j : Nat) : Int) := by simp
  rw [e, Int.tmod_eq_emod_of_nonneg (Int.natCast_nonneg _), Nat.testBit_eq_decide_div_mod_eq]
  generalize x / 2 ^ j = y
  by_cases h : y % 2 = 1
  · have : ((y : Int) % 2 == 1) = true := by simp; omega
    simp [h, this]
  · have : ((y : Int) % 2 == 1) = false := by simp; omega
    simp [h, this]
set_option maxHeartbeats 1000000 in
theorem ahead_any (n : Int) (f : Nat → Nat) (i j : Nat) (w : World) (hi : i < 12) (hj : j < 16) :
    Calls Try.prog 93 #[.agg (relCells n f), .int .i64 i, .int .i64 j] w fun e w' => e = .returned (.bool ((f i).testBit j)) ∧ Below w.heap.size w w' := by
  have hi' : (i : Int) < 12 := by omega
  have a1 := relCells_at n f i hi
  go_enter Try.func93, Try.ntmps93
  go_wp2_with (fail)
  go_ret
  exact ⟨ret_bool (tb_rem _ _), by (repeat (first | assumption | exact Below.refl _ _ | refine bel_alloc ?_ _ | refine Below.drew ?_ | refine below_drewN' ?_ _ | (refine bel_set ?_ (by first | (simp; done) | (simp; omega)) _) | (refine bel_row ?_ (by first | (simp; done) | (simp; omega)) _)))⟩
end Go.Proofs.Ytiimjppceobkfaa
