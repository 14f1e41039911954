/- Lemmas for the walks (SeaA, RelN). No condition. -/
import Derived.Test.YtaonijdhmgcbjaaG21
import Derived.Test.YtaonijdhmgcbjaaG19
set_option linter.unusedSimpArgs false
set_option linter.unusedVariables false
set_option linter.unusedSectionVars false
set_option linter.unnecessarySimpa false
namespace Go.Proofs.Ytaonijdhmgcbjaa
open Go.RowKit

section
variable {C : Ctx} {w : World} {S S' : List Ent} {α : Type} {enc : α → List Value} {M et c : Nat} {A : Option Addr} {ls : List α}
/-- what is one's own is from now on read alone -/
theorem Mem.ownToRdU (hu : Upd S (entOwn enc M et A c ls) (entRd enc M A ls) S') (hM : ∀ x, (enc x).length = M) (hw : Mem C w S) : Mem C w S' := by
  have h1 := hw.ownRd hu.mem hM
  refine hw.upd hu (Keeps.refl [] w) (by simp) (fun g hg => ?_) h1
  have hg' : (entOwn enc M et A c ls).has g := by
    show (Value.slice A ls.length c).ownBlock = some g
    have hg2 : A.map (·.block) = some g := hg
    cases A with
    | none => cases hg2
    | some a => exact hg2
  exact ⟨((hw.holds _ hu.mem).2 g hg').1, .inl hg'⟩
end
section
variable {C : Ctx} {S : List Ent} {α : Type} {enc : α → List Value} {M et c : Nat} {A : Option Addr} {ls : List α}
theorem Lies.ownS (hm : entOwn enc M et A c ls ∈ S) (hA : A = Option.none → c = 0 ∧ ls = []) (hM : ∀ x, (enc x).length = M) : Lies C S (.slice A ls.length c) ls.length (ls.flatMap enc) := by
  cases A with
  | none =>
    obtain ⟨rfl, rfl⟩ := hA rfl
    exact .inl ⟨rfl, rfl, rfl⟩
  | some ad =>
    refine .inr ⟨ad, c, rfl, fun w hw j u hu => ?_⟩
    have h : Own enc M et w 0 (.slice (some ad) ls.length c) ls := (hw.holds _ hm).1
    rcases h.2 with ⟨hv, _⟩ | ⟨g, cap, cur, hv, _, hg, hn, hcm, hcs, htk⟩
    · simp at hv
    · simp only [Value.slice.injEq, Option.some.injEq] at hv
      obtain ⟨rfl, -, rfl⟩ := hv
      rw [add_mk, Nat.zero_add]
      have hj : j < ls.length * M := by
        have := (List.getElem?_eq_some_iff.1 hu).1
        rwa [flat_len hM] at this
      simp only [World.cell?, hg]
      rw [← htk, List.getElem?_take, if_pos hj] at hu
      simpa using hu
end
/-- what is handed back -/
def outV (o : Option (List Stp)) (x : Addr × Nat) : Value := match o with
  | some r => .slice (some x.1) r.length x.2
  | none => .slice none 0 0
def outS (o : Option (List Stp)) (x : Addr × Nat) : List Ent := match o with
  | some r => [entOwn Stp.enc 2 125 (some x.1) x.2 r]
  | none => []
theorem any_mask {ts : List Int} {cs : List Cl} {w : List Stp} (h : PathW ts cs w) (i : Nat) : (w.any fun s => decide (s.call = (i : Int))) = (maskW w).testBit i := by
  rw [mask_bit, Bool.eq_iff_iff, List.any_eq_true, List.any_eq_true]
  constructor
  · rintro ⟨s, hs, e⟩
    exact ⟨s, hs, by simp at e ⊢; omega⟩
  · rintro ⟨s, hs, e⟩
    have := (h.calls s hs).1
    exact ⟨s, hs, by simp at e ⊢; omega⟩
/-- the state of a thing behind the first q steps -/
def sOf (ts : List Int) (cs : List Cl) (w : List Stp) (t q : Nat) : List Int := afterP (ts.getD t 0) (begL (ts.getD t 0)) (dosOf cs (w.take q) t)
theorem sOf_yes {ts : List Int} {cs : List Cl} {w : List Stp} {t q : Nat} (hq : q < w.length) (h : (callAt cs w[q].call.toNat).thing = t) :
    sOf ts cs w t (q + 1) = (stepP (ts.getD t 0) (sOf ts cs w t q) (callAt cs w[q].call.toNat).kind (callAt cs w[q].call.toNat).arg).1 := by
  unfold sOf
  rw [← dosOf_yes hq h, afterP_snoc]; rfl
theorem sOf_no {ts : List Int} {cs : List Cl} {w : List Stp} {t q : Nat} (hq : q < w.length) (h : ¬ (callAt cs w[q].call.toNat).thing = t) : sOf ts cs w t (q + 1) = sOf ts cs w t q := by
  unfold sOf
  rw [← dosOf_no hq h]
theorem sOf_ok {ts : List Int} {cs : List Cl} {f : Nat → Nat} {w : List Stp} (hts : typesOk ts = true) (h : GoodW ts cs f w) {t : Nat} (ht : t < ts.length) (q : Nat) : chkS (ts.getD t 0) (sOf ts cs w t q) = 0 := by
  have h1 := List.all_eq_true.1 h.plays t (List.mem_range.2 ht)
  unfold playsAt at h1
  rw [decide_eq_true_eq] at h1
  have h0 : chkS (ts.getD t 0) (begL (ts.getD t 0)) = 0 := by
    have := (path_nil (cs := cs) hts).sts.2 t ht
    rwa [show (statesW ts cs []).getD t [] = begL (ts.getD t 0) by simp [statesW, List.getD_eq_getElem?_getD, ht]] at this
  have h2 := play_take (dosOf cs (w.take q) t).length h1 h0
  have e : dosOf cs w t = dosOf cs (w.take q) t ++ dosOf cs (w.drop q) t := by
    unfold dosOf
    rw [← List.map_append, ← List.filter_append, List.take_append_drop]
  rw [e, List.take_left'] at h2
  · exact h2
  · rfl
theorem sOf_all {ts : List Int} {cs : List Cl} {w : List Stp} (hn : ThingsNN cs w) {t : Nat} (ht : t < ts.length) : sOf ts cs w t w.length = (statesW ts cs w).getD t [] := by
  rw [states_at hn ht]; unfold sOf; rw [List.take_length]
def tryR (ts : List Int) (cs : List Cl) (f : Nat → Nat) (k : Nat) (w : List Stp) (i : Nat) : Option (List Stp) := tryS (canR ts cs f) (nextW ts cs) (compW cs) cs.length k w i
section
variable {ts : List Int} {cs : List Cl} {f : Nat → Nat}
theorem tryR_no {k : Nat} {w : List Stp} {i : Nat} (h : ¬ canR ts cs f w i = true) : tryR ts cs f k w i = none := by
  unfold tryR tryS; rw [if_neg h]
theorem tryR_yes {k : Nat} {w : List Stp} {i : Nat} (h : canR ts cs f w i = true) : tryR ts cs f (k + 1) w i = srchR ts cs f k (nextW ts cs w i) := by
  unfold tryR tryS; rw [if_pos h]; rfl
end
section
variable (T B : Option Addr) (tc d : Nat) (ts : List Int) (cs : List Cl) (n : Int) (f : Nat → Nat)
def LeastOk (k : Nat) : Prop := ∀ (w : List Stp) (A : Option Addr) (c : Nat) (W : World) (n0 : Nat), GoodW ts cs f w → unset cs.length (maskW w) = k → RdInt W T ts → RdCl W B cs → (A = none → w ≠ []) →
  Away T (blks [entOwn Stp.enc 2 125 A c w]) → (0 < cs.length → Away B (blks [entOwn Stp.enc 2 125 A c w])) → Mem ⟨n0, blks [entOwn Stp.enc 2 125 A c w], W⟩ W [entOwn Stp.enc 2 125 A c w] →
  Calls Try.prog 23 #[.slice T ts.length tc, .slice B cs.length d, .agg (relCells n f), .slice A w.length c] W fun e W' => ∃ x : Addr × Nat,
    e = .returned (outV (srchR ts cs f k w) x) ∧ Mem ⟨0, blks [entOwn Stp.enc 2 125 A c w], W⟩ W' (outS (srchR ts cs f k w) x)
variable (hts : typesOk ts = true) (hcs : CallsOk ts cs) (h9 : cs.length ≤ 9) (hR : RelOk cs f)
include hts hcs h9 hR
set_option maxRecDepth 100000 in
set_option maxHeartbeats 8000000 in
theorem least_step (k : Nat) (hrec : ∀ k', k = k' + 1 → LeastOk T B tc d ts cs n f k') : LeastOk T B tc d ts cs n f k := by
  intro w A c W n0 hg hk hT hB hne haT haB hm
  have hp := hg.path
  obtain ⟨F, hF⟩ : ∃ F, F = blks [entOwn Stp.enc 2 125 A c w] := ⟨_, rfl⟩
  rw [← hF] at haT haB hm ⊢
  obtain ⟨ad, rfl⟩ : ∃ ad, A = some ad := by
    cases A with
    | some ad => exact ⟨ad, rfl⟩
    | none => exact absurd rfl (hm.ownSome (enc := Stp.enc) (by first | ((repeat (first | with_reducible exact List.mem_cons_self | with_reducible apply List.mem_cons_of_mem)); done) | (repeat (first | exact List.Mem.head _ | apply List.Mem.tail))) (List.length_pos_iff.2 (hne rfl)))
  have ht4 : 1 ≤ ts.length ∧ ts.length ≤ 4 := by
    unfold typesOk at hts
    rw [Bool.and_eq_true, decide_eq_true_eq] at hts
    exact hts.1
  have hw9 : w.length ≤ 9 := by have := hp.len; omega
  have hbT : ∀ b o, T = some ⟨b, o, none⟩ → b < W.heap.size := fun b o e => by
    obtain ⟨b', o', e', hb'⟩ := RdE.open hT (by omega)
    rw [e] at e'; cases e'; exact hb'
  have hbB : 0 < cs.length → ∀ b o, B = some ⟨b, o, none⟩ → b < W.heap.size := fun h0 b o e => by
    obtain ⟨b', o', e', hb'⟩ := RdE.open hB h0
    rw [e] at e'; cases e'; exact hb'
  have hrT : ∀ (C : Ctx) (S : List Ent) (W' : World), C.F = F → C.w0 = W → Mem C W' S → RdInt W' T ts := fun C S W' e1 e2 hw => by
    subst e2
    exact hw.rdAwayF hT (fun b o e => by rw [e1]; exact haT b o e)
  have hrB : ∀ (C : Ctx) (S : List Ent) (W' : World), C.F = F → C.w0 = W → Mem C W' S → RdCl W' B cs := fun C S W' e1 e2 hw => by
    subst e2
    rcases Nat.eq_zero_or_pos cs.length with h0 | h0
    · rw [List.length_eq_zero_iff.1 h0]; exact RdE.nil _
    · exact hw.rdAwayF hB (fun b o e => by rw [e1]; exact haB h0 b o e)
  have hawT : ∀ (C : Ctx) (S R : List Ent) (W' : World), C.F = F → C.w0 = W → Mem C W' (S ++ R) → Away T (blks S) := fun C S R W' e1 e2 hw b o e => by
    subst e2
    exact hw.newBlkF (by rw [e1]; exact haT b o e) (hbT b o e)
  have hawB : ∀ (C : Ctx) (S R : List Ent) (W' : World), C.F = F → C.w0 = W → Mem C W' (S ++ R) → 0 < cs.length → Away B (blks S) := fun C S R W' e1 e2 hw h0 b o e => by
    subst e2
    exact hw.newBlkF (by rw [e1]; exact haB h0 b o e) (hbB h0 b o e)
  have hro := fun (W' : World) (h1 : RdInt W' T ts) (h2 : RdCl W' B cs) (h3 : RdStp W' (some ad) w) => rightOrder_any T B (some ad) tc d c ts cs n f w W' hts hcs h9 h1 h2 h3 (by omega)
  rw [good_right hR hg] at hro
  refine calls_T F Try.func23 rfl Try.ntmps23 (by simp) (hm.anyN _) ?_
  cases hcm : compW cs w with
  | true =>
    rw [hcm] at hro
    have hsr : srchR ts cs f k w = some w := srch_comp _ _ _ _ hcm
    rw [hsr]
    repeat' (first | ((first | with_reducible (first | apply TL_q | apply TD_q0 | apply TD_q1 | apply TD_q2 | apply TD_q3) | ((with_reducible (first | apply TD_q0y | apply TD_q1y)); exact rfl; exact rfl; (with_reducible exact rfl))); (first | exact QS.auto | ((with_reducible apply QS_neqNil); exact rfl; exact rfl)); exact rfl) | (refine GO ?_) | (refine GOE ?_; (first | (rintro _ _ ⟨rfl, rfl⟩) | (rintro _ _ ⟨g, rfl, rfl⟩) | (rintro _ _ ⟨A', c', rfl, rfl⟩))) | ((refine GO2 ?_ ?_) <;> intro h <;> (try (repeat (first | with_reducible (replace h := of_decide_eq_true h) | with_reducible (replace h := of_decide_eq_false h) | with_reducible (replace h := bnt h) | with_reducible (replace h := bnf h) | with_reducible (replace h := Int.not_lt.mp h) | with_reducible (replace h := Int.not_le.mp h) | with_reducible (replace h := band_dec h) | with_reducible (replace h := band_decF h) | with_reducible (replace h := bor_dec h) | with_reducible (replace h := bor_decF h)))) <;> (try (exfalso; first | contradiction | omega))) | ((with_reducible (first | apply TD_e2z | apply TD_e3z | apply TL_e | apply TD_e2 | apply TD_e3)); ((with_reducible apply ES_callV (f := 49)); exact rfl; (intro w hw; exact hro w (hrT _ _ _ rfl rfl hw) (hrB _ _ _ rfl rfl hw) (hw.ownRd (by first | ((repeat (first | with_reducible exact List.mem_cons_self | with_reducible apply List.mem_cons_of_mem)); done) | (repeat (first | exact List.Mem.head _ | apply List.Mem.tail))) (fun _ => rfl))); exact rfl); (first | exact rfl | exact ⟨rfl, rfl, rfl⟩); (rintro _ _ ⟨rfl, rfl⟩); (try refine ⟨SUB, ?_⟩)) | fail)
    (refine At_ret Try.results23 rfl (fun w' hw => ?_))
    exact ⟨(ad, c), rfl, (hw.anyN 0).sub (by first | ((repeat (first | with_reducible exact List.nil_sublist _ | with_reducible exact List.Sublist.refl _ | with_reducible apply List.Sublist.cons_cons | with_reducible apply List.Sublist.cons)); done) | (repeat (first | exact List.nil_sublist _ | exact List.Sublist.refl _ | apply List.Sublist.cons_cons | apply List.Sublist.cons)))⟩
  | false =>
    rw [hcm] at hro
    have hnc : ¬ compW cs w = true := by rw [hcm]; simp
    repeat' (first | ((first | with_reducible (first | apply TL_q | apply TD_q0 | apply TD_q1 | apply TD_q2 | apply TD_q3) | ((with_reducible (first | apply TD_q0y | apply TD_q1y)); exact rfl; exact rfl; (with_reducible exact rfl))); (first | exact QS.auto | ((with_reducible apply QS_neqNil); exact rfl; exact rfl)); exact rfl) | (refine GO ?_) | (refine GOE ?_; (first | (rintro _ _ ⟨rfl, rfl⟩) | (rintro _ _ ⟨g, rfl, rfl⟩) | (rintro _ _ ⟨A', c', rfl, rfl⟩))) | ((refine GO2 ?_ ?_) <;> intro h <;> (try (repeat (first | with_reducible (replace h := of_decide_eq_true h) | with_reducible (replace h := of_decide_eq_false h) | with_reducible (replace h := bnt h) | with_reducible (replace h := bnf h) | with_reducible (replace h := Int.not_lt.mp h) | with_reducible (replace h := Int.not_le.mp h) | with_reducible (replace h := band_dec h) | with_reducible (replace h := band_decF h) | with_reducible (replace h := bor_dec h) | with_reducible (replace h := bor_decF h)))) <;> (try (exfalso; first | contradiction | omega))) | ((with_reducible (first | apply TD_e2z | apply TD_e3z | apply TL_e | apply TD_e2 | apply TD_e3)); ((with_reducible apply ES_callV (f := 49)); exact rfl; (intro w hw; exact hro w (hrT _ _ _ rfl rfl hw) (hrB _ _ _ rfl rfl hw) (hw.ownRd (by first | ((repeat (first | with_reducible exact List.mem_cons_self | with_reducible apply List.mem_cons_of_mem)); done) | (repeat (first | exact List.Mem.head _ | apply List.Mem.tail))) (fun _ => rfl))); exact rfl); (first | exact rfl | exact ⟨rfl, rfl, rfl⟩); (rintro _ _ ⟨rfl, rfl⟩); (try refine ⟨SUB, ?_⟩)) | fail)
    obtain ⟨g6, rfl⟩ : ∃ x, x = g := ⟨_, rfl⟩
    refine T_loop (X := Nat) (fun i => [(29, .int .i64 (i : Nat)), (28, .int .i64 cs.length), (27, .slice B cs.length d), (6, .pointer (some ⟨g6, 0, none⟩)), (3, .slice (some ad) w.length c), (1, .slice B cs.length d), (0, .slice T ts.length tc)])
      (fun _ => [entBlk g6 71 (relCells n f), entOwn Stp.enc 2 125 (some ad) c w]) (fun i => i ≤ cs.length ∧ ∀ j, j < i → tryR ts cs f k w j = none) (fun i => cs.length - i) 0 ⟨by omega, fun i hi => by omega⟩ (by (repeat (first | exact SubE.nil _ | refine SubE.cons rfl ?_))) (by exact SUBS) ?_
    rintro i ⟨hi, hno⟩
    by_cases hil : i < cs.length
    · have hcall := callAt_eq hil
      have hth := hcs i hil
      rw [hcall] at hth
      have hth0 := hth.1
      have hjt : cs[i].thing.toNat < ts.length := by omega
      obtain ⟨bT, oT, rfl, hbT'⟩ := RdE.open hT (by omega)
      obtain ⟨bB, oB, rfl, hbB'⟩ := RdE.open hB (by omega)
      have hTF : bT ∉ F := haT _ _ rfl
      have hBF : bB ∉ F := haB (by omega) _ _ rfl
      have hmask := any_mask hp i
      have hhas1 := fun (C : Ctx) (S : List Ent) (W' : World) (hw : Mem C W' S) {g9 : Nat} (h1 : entBlk g9 3 #[.int .i64 (i : Nat)] ∈ S) (h2 : entOwn Stp.enc 2 125 (some ad) c w ∈ S) =>
        hasStp_any 51 (fun s => decide (s.call = (i : Int))) (.pointer (some ⟨g9, 0, none⟩)) (some ad) c w W' (hw.ownRd h2 (fun _ => rfl)) (by omega)
          (fun s w2 hb => isCall1_any (i : Int) s g9 w2 (by have := (hw.blkAt h1).1; have := hb.size; omega) (by
            have hbk : Blk W' g9 3 #[.int .i64 (i : Nat)] := (hw.holds _ h1).1
            exact (hbk.carry hb).cell 0))
      rw [hmask] at hhas1
      have hbg := fun w => begin_any ts[cs[i].thing.toNat] w
      have htt : cs[i].thing = ((cs[i].thing.toNat : Nat) : Int) := by omega
      have hgd : ts.getD cs[i].thing.toNat 0 = ts[cs[i].thing.toNat] := by simp [List.getD_eq_getElem?_getD, hjt]
      have hck := sOf_ok hts hg hjt
      have hs0 : begL ts[cs[i].thing.toNat] = sOf ts cs w cs[i].thing.toNat 0 := by unfold sOf; rw [hgd]; rfl
      rw [hs0] at hbg
      rw [hgd] at hck
      have hsy := fun q (hq : q < w.length) => sOf_yes (ts := ts) (cs := cs) (t := cs[i].thing.toNat) hq
      have hsn := fun q (hq : q < w.length) => sOf_no (ts := ts) (cs := cs) (t := cs[i].thing.toNat) hq
      have hsl := sOf_all (path_nn hcs hp) hjt
      have hsti : stepSt ts cs (statesW ts cs w) i = stepP ts[cs[i].thing.toNat] (sOf ts cs w cs[i].thing.toNat w.length) cs[i].kind cs[i].arg := by
        unfold stepSt typAt
        rw [hcall, hsl, hgd]
      rw [hgd] at hsy
      have hfi := step_fit hcs hil
      rw [hcall, typAt, hgd] at hfi
      repeat' (first | ((first | with_reducible (first | apply TL_q | apply TD_q0 | apply TD_q1 | apply TD_q2 | apply TD_q3) | ((with_reducible (first | apply TD_q0y | apply TD_q1y)); exact rfl; exact rfl; (with_reducible exact rfl))); (first | exact QS.auto | ((with_reducible apply QS_neqNil); exact rfl; exact rfl)); exact rfl) | (refine GO ?_) | (refine GOE ?_; (first | (rintro _ _ ⟨rfl, rfl⟩) | (rintro _ _ ⟨g, rfl, rfl⟩) | (rintro _ _ ⟨A', c', rfl, rfl⟩))) | ((refine GO2 ?_ ?_) <;> intro h <;> (try (repeat (first | with_reducible (replace h := of_decide_eq_true h) | with_reducible (replace h := of_decide_eq_false h) | with_reducible (replace h := bnt h) | with_reducible (replace h := bnf h) | with_reducible (replace h := Int.not_lt.mp h) | with_reducible (replace h := Int.not_le.mp h) | with_reducible (replace h := band_dec h) | with_reducible (replace h := band_decF h) | with_reducible (replace h := bor_dec h) | with_reducible (replace h := bor_decF h)))) <;> (try (exfalso; first | contradiction | omega))) | fail)
      rename_i g9
      obtain ⟨g10, rfl⟩ : ∃ x, x = g := ⟨_, rfl⟩
      repeat' (first | ((first | with_reducible (first | apply TL_q | apply TD_q0 | apply TD_q1 | apply TD_q2 | apply TD_q3) | ((with_reducible (first | apply TD_q0y | apply TD_q1y)); exact rfl; exact rfl; (with_reducible exact rfl))); (first | exact QS.auto | ((with_reducible apply QS_neqNil); exact rfl; exact rfl)); exact rfl) | (refine GO ?_) | (refine GOE ?_; (first | (rintro _ _ ⟨rfl, rfl⟩) | (rintro _ _ ⟨g, rfl, rfl⟩) | (rintro _ _ ⟨A', c', rfl, rfl⟩))) | ((refine GO2 ?_ ?_) <;> intro h <;> (try (repeat (first | with_reducible (replace h := of_decide_eq_true h) | with_reducible (replace h := of_decide_eq_false h) | with_reducible (replace h := bnt h) | with_reducible (replace h := bnf h) | with_reducible (replace h := Int.not_lt.mp h) | with_reducible (replace h := Int.not_le.mp h) | with_reducible (replace h := band_dec h) | with_reducible (replace h := band_decF h) | with_reducible (replace h := bor_dec h) | with_reducible (replace h := bor_decF h)))) <;> (try (exfalso; first | contradiction | omega))) | ((with_reducible (first | apply TD_e2z | apply TD_e3z | apply TL_e | apply TD_e2 | apply TD_e3)); ((with_reducible apply ES_callV (f := 50) (v := .bool ((maskW w).testBit i))); exact rfl; (intro w' hw; exact hhas1 _ _ w' hw (by first | ((repeat (first | with_reducible exact List.mem_cons_self | with_reducible apply List.mem_cons_of_mem)); done) | (repeat (first | exact List.Mem.head _ | apply List.Mem.tail))) (by first | ((repeat (first | with_reducible exact List.mem_cons_self | with_reducible apply List.mem_cons_of_mem)); done) | (repeat (first | exact List.Mem.head _ | apply List.Mem.tail)))); exact rfl); (first | exact rfl | exact ⟨rfl, rfl, rfl⟩); (rintro _ _ ⟨rfl, rfl⟩); (try refine ⟨SUB, ?_⟩)) | fail)
      · refine At_rounds (i + 1) ⟨hil, fun j hj => ?_⟩ (by omega) (by (repeat (first | exact SubE.nil _ | refine SubE.cons rfl ?_))) (by exact SUBS)
        by_cases e : j = i
        · subst e
          have hb1 : (maskW w).testBit j = true := by assumption
          exact tryR_no (fun h => by have := (canR_iff.1 h).1; rw [hb1] at this; cases this)
        · exact hno j (by omega)
      have hbit : (maskW w).testBit i = false := by assumption
      repeat' (first | ((first | with_reducible (first | apply TL_q | apply TD_q0 | apply TD_q1 | apply TD_q2 | apply TD_q3) | ((with_reducible (first | apply TD_q0y | apply TD_q1y)); exact rfl; exact rfl; (with_reducible exact rfl))); (first | exact QS.auto | ((with_reducible apply QS_neqNil); exact rfl; exact rfl)); exact rfl) | (refine GO ?_) | (refine GOE ?_; (first | (rintro _ _ ⟨rfl, rfl⟩) | (rintro _ _ ⟨g, rfl, rfl⟩) | (rintro _ _ ⟨A', c', rfl, rfl⟩))) | ((refine GO2 ?_ ?_) <;> intro h <;> (try (repeat (first | with_reducible (replace h := of_decide_eq_true h) | with_reducible (replace h := of_decide_eq_false h) | with_reducible (replace h := bnt h) | with_reducible (replace h := bnf h) | with_reducible (replace h := Int.not_lt.mp h) | with_reducible (replace h := Int.not_le.mp h) | with_reducible (replace h := band_dec h) | with_reducible (replace h := band_decF h) | with_reducible (replace h := bor_dec h) | with_reducible (replace h := bor_decF h)))) <;> (try (exfalso; first | contradiction | omega))) | ((with_reducible (first | apply TD_e2z | apply TD_e3z | apply TL_e | apply TD_e2 | apply TD_e3)); ((with_reducible apply ES_callOwn (f := 52)); exact rfl; (intro w hw; exact hbg w); exact rfl); (first | exact rfl | exact ⟨rfl, rfl, rfl⟩); (rintro _ _ ⟨A0, c0, rfl, rfl⟩); (try refine ⟨SUB, ?_⟩)) | fail)
      refine T_fact (p := (sOf ts cs w cs[i].thing.toNat 0).length ≤ c0 ∧ (A0 = none → c0 = 0)) (fun w' hw => hw.ownFacts (enc := intEnc) (M := 1) (et := 3) (by first | ((repeat (first | with_reducible exact List.mem_cons_self | with_reducible apply List.mem_cons_of_mem)); done) | (repeat (first | exact List.Mem.head _ | apply List.Mem.tail)))) fun hf0 => ?_
      refine T_loop (X := Nat × Option Addr × Nat) (fun x => [(45, .int .i64 (x.1 : Nat)), (44, .int .i64 w.length), (43, .slice (some ad) w.length c), (11, .slice x.2.1 (sOf ts cs w cs[i].thing.toNat x.1).length x.2.2), (10, .pointer (some ⟨g10, 0, none⟩)), (9, .pointer (some ⟨g9, 0, none⟩)),
          (29, .int .i64 (i : Nat)), (28, .int .i64 cs.length), (27, .slice (some ⟨bB, oB, none⟩) cs.length d), (6, .pointer (some ⟨g6, 0, none⟩)), (3, .slice (some ad) w.length c), (1, .slice (some ⟨bB, oB, none⟩) cs.length d), (0, .slice (some ⟨bT, oT, none⟩) ts.length tc)])
        (fun x => [entRd intEnc 1 x.2.1 (sOf ts cs w cs[i].thing.toNat x.1), entBlk g10 107 cs[i].enc.toArray, entBlk g9 3 #[.int .i64 (i : Nat)], entBlk g6 71 (relCells n f), entOwn Stp.enc 2 125 (some ad) c w])
        (fun x => x.1 ≤ w.length ∧ (sOf ts cs w cs[i].thing.toNat x.1).length ≤ x.2.2 ∧ (x.2.1 = none → x.2.2 = 0)) (fun x => w.length - x.1) (0, A0, c0) ⟨by (try dsimp only); omega, hf0.1, hf0.2⟩ (by (repeat (first | exact SubE.nil _ | refine SubE.cons rfl ?_))) (fun w' hw => (Mem.ownToRdU (enc := intEnc) (M := 1) (et := 3) (by first | ((repeat (first | with_reducible exact Upd.here _ _ _ | with_reducible apply Upd.there)); done) | (repeat (first | exact Upd.here _ _ _ | apply Upd.there))) (fun _ => rfl) hw)) ?_
      rintro ⟨q, A1, c1⟩ ⟨hq, hsc, hsn1⟩
      dsimp only at hq hsc hsn1 ⊢
      by_cases hql : q < w.length
      · refine T_own (ls := w) (by first | ((repeat (first | with_reducible exact List.mem_cons_self | with_reducible apply List.mem_cons_of_mem)); done) | (repeat (first | exact List.Mem.head _ | apply List.Mem.tail))) (by omega) ?_
        rintro gw e
        obtain rfl := Option.some.inj e
        have hpc := hp.calls w[q] (List.getElem_mem hql)
        have hz0 := hpc.1
        have hzn := hpc.2
        have hcq := callAt_eq hzn
        have hthq := hcs _ hzn
        rw [hcq] at hthq
        have hyes := hsy q hql
        have hnoq := hsn q hql
        rw [hcq] at hyes hnoq
        have hfq := step_fit hcs hzn
        rw [hcq] at hfq
        by_cases hsame : cs[w[q].call.toNat].thing = ((cs[i].thing.toNat : Nat) : Int)
        · have hsame' : cs[w[q].call.toNat].thing = cs[i].thing := by omega
          have hfb : fitB ts[cs[i].thing.toNat] cs[w[q].call.toNat].kind := by
            rw [hsame, typAt, Int.toNat_natCast, hgd] at hfq; exact hfq
          have hstep := fun (C : Ctx) (R : List Ent) (w' : World) (hw : Mem C w' ([entRd intEnc 1 A1 (sOf ts cs w cs[i].thing.toNat q)] ++ R)) => stepped_mem (a := cs[w[q].call.toNat].arg) hw hsn1 hsc (hck q) hfb
          have hy := hyes hsame
          generalize stepP ts[cs[i].thing.toNat] (sOf ts cs w cs[i].thing.toNat q) cs[w[q].call.toNat].kind cs[w[q].call.toNat].arg = R at *
          generalize sOf ts cs w cs[i].thing.toNat q = s at *
          repeat' (first | ((first | with_reducible (first | apply TL_q | apply TD_q0 | apply TD_q1 | apply TD_q2 | apply TD_q3) | ((with_reducible (first | apply TD_q0y | apply TD_q1y)); exact rfl; exact rfl; (with_reducible exact rfl))); (first | exact QS.auto | ((with_reducible apply QS_neqNil); exact rfl; exact rfl)); exact rfl) | (refine GO ?_) | (refine GOE ?_; (first | (rintro _ _ ⟨rfl, rfl⟩) | (rintro _ _ ⟨g, rfl, rfl⟩) | (rintro _ _ ⟨A', c', rfl, rfl⟩))) | ((refine GO2 ?_ ?_) <;> intro h <;> (try (repeat (first | with_reducible (replace h := of_decide_eq_true h) | with_reducible (replace h := of_decide_eq_false h) | with_reducible (replace h := bnt h) | with_reducible (replace h := bnf h) | with_reducible (replace h := Int.not_lt.mp h) | with_reducible (replace h := Int.not_le.mp h) | with_reducible (replace h := band_dec h) | with_reducible (replace h := band_decF h) | with_reducible (replace h := bor_dec h) | with_reducible (replace h := bor_decF h)))) <;> (try (exfalso; first | contradiction | omega))) | ((with_reducible (first | apply TD_e2z | apply TD_e3z | apply TL_e | apply TD_e2 | apply TD_e3)); ((with_reducible apply ES_callX (f := 53) (X := {x : Option Addr × Nat // (x.1 = none → x.2 = 0) ∧ R.1.length ≤ x.2}) (S1 := [entRd intEnc 1 A1 s]) (fun x => stepV R x.1) (fun x => [entRd intEnc 1 x.1.1 R.1])); exact rfl; ((repeat (first | exact Pull.nil _ | (apply Pull.cons; (repeat (first | with_reducible exact Pick.here _ _ | with_reducible apply Pick.there)))))); (intro x; (try dsimp only); repeat (first | exact AppL.nil _ | apply AppL.cons)); (intro w hw; exact hstep _ _ w hw); exact rfl); (first | exact rfl | exact ⟨rfl, rfl, rfl⟩); (rintro _ _ ⟨⟨⟨A2, c2⟩, hx⟩, rfl, rfl⟩); (try refine ⟨SUB, ?_⟩)) | fail)
          apply At_rounds (q + 1, A2, c2)
          case hE => dsimp only; rw [hy]; (repeat (first | exact SubE.nil _ | refine SubE.cons rfl ?_))
          case hS => dsimp only; rw [hy]; exact SUBS
          case hμ => (try dsimp only); omega
          case hp => exact ⟨hql, by dsimp only; rw [hy]; exact hx.2, hx.1⟩
        · have hn' : ¬ cs[w[q].call.toNat].thing = cs[i].thing := by omega
          have hy := hnoq hsame
          repeat' (first | ((first | with_reducible (first | apply TL_q | apply TD_q0 | apply TD_q1 | apply TD_q2 | apply TD_q3) | ((with_reducible (first | apply TD_q0y | apply TD_q1y)); exact rfl; exact rfl; (with_reducible exact rfl))); (first | exact QS.auto | ((with_reducible apply QS_neqNil); exact rfl; exact rfl)); exact rfl) | (refine GO ?_) | (refine GOE ?_; (first | (rintro _ _ ⟨rfl, rfl⟩) | (rintro _ _ ⟨g, rfl, rfl⟩) | (rintro _ _ ⟨A', c', rfl, rfl⟩))) | ((refine GO2 ?_ ?_) <;> intro h <;> (try (repeat (first | with_reducible (replace h := of_decide_eq_true h) | with_reducible (replace h := of_decide_eq_false h) | with_reducible (replace h := bnt h) | with_reducible (replace h := bnf h) | with_reducible (replace h := Int.not_lt.mp h) | with_reducible (replace h := Int.not_le.mp h) | with_reducible (replace h := band_dec h) | with_reducible (replace h := band_decF h) | with_reducible (replace h := bor_dec h) | with_reducible (replace h := bor_decF h)))) <;> (try (exfalso; first | contradiction | omega))) | fail)
          apply At_rounds (q + 1, A1, c1)
          case hE => dsimp only; rw [hy]; (repeat (first | exact SubE.nil _ | refine SubE.cons rfl ?_))
          case hS => dsimp only; rw [hy]; exact SUBS
          case hμ => (try dsimp only); omega
          case hp => exact ⟨hql, by dsimp only; rw [hy]; exact hsc, hsn1⟩
      · obtain rfl : q = w.length := by omega
        have hstep := fun (C : Ctx) (R : List Ent) (w' : World) (hw : Mem C w' ([entRd intEnc 1 A1 (sOf ts cs w cs[i].thing.toNat w.length)] ++ R)) => stepped_mem (a := cs[i].arg) hw hsn1 hsc (hck w.length) hfi
        have hfs : fitsSt ts cs (statesW ts cs w) i = (decide ((stepSt ts cs (statesW ts cs w) i).2.2 = 0) && (decide (cs[i].to = -1) || decide ((stepSt ts cs (statesW ts cs w) i).2.1 = cs[i].res))) := by unfold fitsSt; rw [hcall]
        have hnx : nextW ts cs w i = w ++ [⟨(i : Int), (stepSt ts cs (statesW ts cs w) i).2.1⟩] := rfl
        rw [hsti] at hfs hnx
        generalize stepP ts[cs[i].thing.toNat] (sOf ts cs w cs[i].thing.toNat w.length) cs[i].kind cs[i].arg = R at *
        generalize sOf ts cs w cs[i].thing.toNat w.length = s at *
        generalize hfit : fitsSt ts cs (statesW ts cs w) i = fit at *
        repeat' (first
          | ((with_reducible refine T_cutAt (X := Bool) 16 (fun b => [(18, .bool b), (16, .int .i64 R.2.1), (10, .pointer (some ⟨g10, 0, none⟩)), (9, .pointer (some ⟨g9, 0, none⟩)), (29, .int .i64 (i : Nat)), (28, .int .i64 cs.length), (27, .slice (some ⟨bB, oB, none⟩) cs.length d), (6, .pointer (some ⟨g6, 0, none⟩)), (3, .slice (some ad) w.length c), (1, .slice (some ⟨bB, oB, none⟩) cs.length d), (0, .slice (some ⟨bT, oT, none⟩) ts.length tc)]) (fun _ => [entBlk g10 107 cs[i].enc.toArray, entBlk g9 3 #[.int .i64 (i : Nat)], entBlk g6 71 (relCells n f), entOwn Stp.enc 2 125 (some ad) c w]) (fun b => b = fit) ?_ ?_))
          | ((first | with_reducible (first | apply TL_q | apply TD_q0 | apply TD_q1 | apply TD_q2 | apply TD_q3) | ((with_reducible (first | apply TD_q0y | apply TD_q1y)); exact rfl; exact rfl; (with_reducible exact rfl))); (first | exact QS.auto | ((with_reducible apply QS_neqNil); exact rfl; exact rfl)); exact rfl) | (refine GO ?_) | (refine GOE ?_; (first | (rintro _ _ ⟨rfl, rfl⟩) | (rintro _ _ ⟨g, rfl, rfl⟩) | (rintro _ _ ⟨A', c', rfl, rfl⟩))) | ((refine GO2 ?_ ?_) <;> intro h <;> (try (repeat (first | with_reducible (replace h := of_decide_eq_true h) | with_reducible (replace h := of_decide_eq_false h) | with_reducible (replace h := bnt h) | with_reducible (replace h := bnf h) | with_reducible (replace h := Int.not_lt.mp h) | with_reducible (replace h := Int.not_le.mp h) | with_reducible (replace h := band_dec h) | with_reducible (replace h := band_decF h) | with_reducible (replace h := bor_dec h) | with_reducible (replace h := bor_decF h)))) <;> (try (exfalso; first | contradiction | omega))) | ((with_reducible (first | apply TD_e2z | apply TD_e3z | apply TL_e | apply TD_e2 | apply TD_e3)); ((with_reducible apply ES_callX (f := 53) (X := {x : Option Addr × Nat // (x.1 = none → x.2 = 0) ∧ R.1.length ≤ x.2}) (S1 := [entRd intEnc 1 A1 s]) (fun x => stepV R x.1) (fun x => [entRd intEnc 1 x.1.1 R.1])); exact rfl; ((repeat (first | exact Pull.nil _ | (apply Pull.cons; (repeat (first | with_reducible exact Pick.here _ _ | with_reducible apply Pick.there)))))); (intro x; (try dsimp only); repeat (first | exact AppL.nil _ | apply AppL.cons)); (intro w hw; exact hstep _ _ w hw); exact rfl); (first | exact rfl | exact ⟨rfl, rfl, rfl⟩); (rintro _ _ ⟨⟨⟨A2, c2⟩, hx⟩, rfl, rfl⟩); (try refine ⟨SUB, ?_⟩)) | fail)
        · exact At_cut true (by have h1 : R.2.2 = 0 := by assumption
                                have h2 : cs[i].to = -1 := by assumption
                                rw [hfs]; simp [h1, h2]) (by (repeat (first | exact SubE.nil _ | refine SubE.cons rfl ?_))) (by exact SUBS)
        · exact At_cut (decide (R.2.1 = cs[i].res)) (by have h1 : R.2.2 = 0 := by assumption
                                                        have h2 : ¬ cs[i].to = -1 := by assumption
                                                        rw [hfs]; simp [h1, h2]) (by (repeat (first | exact SubE.nil _ | refine SubE.cons rfl ?_))) (by exact SUBS)
        · exact At_cut false (by have h1 : ¬ R.2.2 = 0 := by assumption
                                 rw [hfs]; simp [h1]) (by (repeat (first | exact SubE.nil _ | refine SubE.cons rfl ?_))) (by exact SUBS)
        rintro b rfl
        repeat' (first | ((first | with_reducible (first | apply TL_q | apply TD_q0 | apply TD_q1 | apply TD_q2 | apply TD_q3) | ((with_reducible (first | apply TD_q0y | apply TD_q1y)); exact rfl; exact rfl; (with_reducible exact rfl))); (first | exact QS.auto | ((with_reducible apply QS_neqNil); exact rfl; exact rfl)); exact rfl) | (refine GO ?_) | (refine GOE ?_; (first | (rintro _ _ ⟨rfl, rfl⟩) | (rintro _ _ ⟨g, rfl, rfl⟩) | (rintro _ _ ⟨A', c', rfl, rfl⟩))) | ((refine GO2 ?_ ?_) <;> intro h <;> (try (repeat (first | with_reducible (replace h := of_decide_eq_true h) | with_reducible (replace h := of_decide_eq_false h) | with_reducible (replace h := bnt h) | with_reducible (replace h := bnf h) | with_reducible (replace h := Int.not_lt.mp h) | with_reducible (replace h := Int.not_le.mp h) | with_reducible (replace h := band_dec h) | with_reducible (replace h := band_decF h) | with_reducible (replace h := bor_dec h) | with_reducible (replace h := bor_decF h)))) <;> (try (exfalso; first | contradiction | omega))) | fail)
        refine T_loop (X := Nat × Bool) (fun x => [(95, .int .i64 (x.1 : Nat)), (94, .int .i64 cs.length), (18, .bool x.2), (16, .int .i64 R.2.1), (10, .pointer (some ⟨g10, 0, none⟩)), (9, .pointer (some ⟨g9, 0, none⟩)), (29, .int .i64 (i : Nat)), (28, .int .i64 cs.length), (27, .slice (some ⟨bB, oB, none⟩) cs.length d), (6, .pointer (some ⟨g6, 0, none⟩)), (3, .slice (some ad) w.length c), (1, .slice (some ⟨bB, oB, none⟩) cs.length d), (0, .slice (some ⟨bT, oT, none⟩) ts.length tc)])
          (fun _ => [entBlk g9 3 #[.int .i64 (i : Nat)], entBlk g6 71 (relCells n f), entOwn Stp.enc 2 125 (some ad) c w]) (fun x => x.1 ≤ cs.length ∧ (x.2 = true ↔ b = true ∧ ∀ a, a < x.1 → (f a).testBit i = true → (maskW w).testBit a = true)) (fun x => cs.length - x.1) (0, b) ⟨by (try dsimp only); omega, by simp⟩ (by (repeat (first | exact SubE.nil _ | refine SubE.cons rfl ?_))) (by exact SUBS) ?_
        rintro ⟨j, b2⟩ ⟨hj, hb2⟩
        dsimp only at hj hb2 ⊢
        by_cases hjl : j < cs.length
        · have hmaskj := any_mask hp j
          have hhas2 := fun (C : Ctx) (S : List Ent) (W' : World) (hw : Mem C W' S) {g9 : Nat} (h1 : entBlk g9 3 #[.int .i64 (j : Nat)] ∈ S) (h2 : entOwn Stp.enc 2 125 (some ad) c w ∈ S) =>
            hasStp_any 55 (fun s => decide (s.call = (j : Int))) (.pointer (some ⟨g9, 0, none⟩)) (some ad) c w W' (hw.ownRd h2 (fun _ => rfl)) (by omega)
              (fun s w2 hb => isCall2_any (j : Int) s g9 w2 (by have := (hw.blkAt h1).1; have := hb.size; omega) (by
                have hbk : Blk W' g9 3 #[.int .i64 (j : Nat)] := (hw.holds _ h1).1
                exact (hbk.carry hb).cell 0))
          rw [hmaskj] at hhas2
          have hah := fun w' => ahead_any n f j i w' (by omega) (by omega)
          have hnext : ∀ b3 : Bool, (b3 = true ↔ b2 = true ∧ ((f j).testBit i = true → (maskW w).testBit j = true)) → (b3 = true ↔ b = true ∧ ∀ a, a < j + 1 → (f a).testBit i = true → (maskW w).testBit a = true) := fun b3 h3 => by
            rw [h3, hb2]
            constructor
            · rintro ⟨⟨h1, h2⟩, h4⟩
              refine ⟨h1, fun a ha => ?_⟩
              by_cases e : a = j
              · subst e; exact h4
              · exact h2 a (by omega)
            · rintro ⟨h1, h2⟩
              exact ⟨⟨h1, fun a ha => h2 a (by omega)⟩, h2 j (by omega)⟩
          generalize (f j).testBit i = z at *
          cases z with
          | false =>
            repeat' (first | ((first | with_reducible (first | apply TL_q | apply TD_q0 | apply TD_q1 | apply TD_q2 | apply TD_q3) | ((with_reducible (first | apply TD_q0y | apply TD_q1y)); exact rfl; exact rfl; (with_reducible exact rfl))); (first | exact QS.auto | ((with_reducible apply QS_neqNil); exact rfl; exact rfl)); exact rfl) | (refine GO ?_) | (refine GOE ?_; (first | (rintro _ _ ⟨rfl, rfl⟩) | (rintro _ _ ⟨g, rfl, rfl⟩) | (rintro _ _ ⟨A', c', rfl, rfl⟩))) | ((refine GO2 ?_ ?_) <;> intro h <;> (try (repeat (first | with_reducible (replace h := of_decide_eq_true h) | with_reducible (replace h := of_decide_eq_false h) | with_reducible (replace h := bnt h) | with_reducible (replace h := bnf h) | with_reducible (replace h := Int.not_lt.mp h) | with_reducible (replace h := Int.not_le.mp h) | with_reducible (replace h := band_dec h) | with_reducible (replace h := band_decF h) | with_reducible (replace h := bor_dec h) | with_reducible (replace h := bor_decF h)))) <;> (try (exfalso; first | contradiction | omega))) | ((with_reducible (first | apply TD_e2z | apply TD_e3z | apply TL_e | apply TD_e2 | apply TD_e3)); ((with_reducible apply ES_callV (f := 54)); exact rfl; (intro w hw; exact hah w); exact rfl); (first | exact rfl | exact ⟨rfl, rfl, rfl⟩); (rintro _ _ ⟨rfl, rfl⟩); (try refine ⟨SUB, ?_⟩)) | fail)
            exact At_rounds (j + 1, b2) ⟨hjl, hnext b2 (by simp)⟩ (by (try dsimp only); omega) (by (repeat (first | exact SubE.nil _ | refine SubE.cons rfl ?_))) (by exact SUBS)
          | true =>
            generalize hzj : (maskW w).testBit j = y at *
            cases y with
            | false =>
              repeat' (first | ((first | with_reducible (first | apply TL_q | apply TD_q0 | apply TD_q1 | apply TD_q2 | apply TD_q3) | ((with_reducible (first | apply TD_q0y | apply TD_q1y)); exact rfl; exact rfl; (with_reducible exact rfl))); (first | exact QS.auto | ((with_reducible apply QS_neqNil); exact rfl; exact rfl)); exact rfl) | (refine GO ?_) | (refine GOE ?_; (first | (rintro _ _ ⟨rfl, rfl⟩) | (rintro _ _ ⟨g, rfl, rfl⟩) | (rintro _ _ ⟨A', c', rfl, rfl⟩))) | ((refine GO2 ?_ ?_) <;> intro h <;> (try (repeat (first | with_reducible (replace h := of_decide_eq_true h) | with_reducible (replace h := of_decide_eq_false h) | with_reducible (replace h := bnt h) | with_reducible (replace h := bnf h) | with_reducible (replace h := Int.not_lt.mp h) | with_reducible (replace h := Int.not_le.mp h) | with_reducible (replace h := band_dec h) | with_reducible (replace h := band_decF h) | with_reducible (replace h := bor_dec h) | with_reducible (replace h := bor_decF h)))) <;> (try (exfalso; first | contradiction | omega))) | ((with_reducible (first | apply TD_e2z | apply TD_e3z | apply TL_e | apply TD_e2 | apply TD_e3)); ((with_reducible apply ES_callV (f := 54)); exact rfl; (intro w hw; exact hah w); exact rfl); (first | exact rfl | exact ⟨rfl, rfl, rfl⟩); (rintro _ _ ⟨rfl, rfl⟩); (try refine ⟨SUB, ?_⟩)) | ((with_reducible (first | apply TD_e2z | apply TD_e3z | apply TL_e | apply TD_e2 | apply TD_e3)); ((with_reducible apply ES_callV (f := 50)); exact rfl; (intro w' hw; exact hhas2 _ _ w' hw (by first | ((repeat (first | with_reducible exact List.mem_cons_self | with_reducible apply List.mem_cons_of_mem)); done) | (repeat (first | exact List.Mem.head _ | apply List.Mem.tail))) (by first | ((repeat (first | with_reducible exact List.mem_cons_self | with_reducible apply List.mem_cons_of_mem)); done) | (repeat (first | exact List.Mem.head _ | apply List.Mem.tail)))); exact rfl); (first | exact rfl | exact ⟨rfl, rfl, rfl⟩); (rintro _ _ ⟨rfl, rfl⟩); (try refine ⟨SUB, ?_⟩)) | fail)
              exact At_rounds (j + 1, false) ⟨hjl, hnext false (by simp)⟩ (by (try dsimp only); omega) (by (repeat (first | exact SubE.nil _ | refine SubE.cons rfl ?_))) (by exact SUBS)
            | true =>
              repeat' (first | ((first | with_reducible (first | apply TL_q | apply TD_q0 | apply TD_q1 | apply TD_q2 | apply TD_q3) | ((with_reducible (first | apply TD_q0y | apply TD_q1y)); exact rfl; exact rfl; (with_reducible exact rfl))); (first | exact QS.auto | ((with_reducible apply QS_neqNil); exact rfl; exact rfl)); exact rfl) | (refine GO ?_) | (refine GOE ?_; (first | (rintro _ _ ⟨rfl, rfl⟩) | (rintro _ _ ⟨g, rfl, rfl⟩) | (rintro _ _ ⟨A', c', rfl, rfl⟩))) | ((refine GO2 ?_ ?_) <;> intro h <;> (try (repeat (first | with_reducible (replace h := of_decide_eq_true h) | with_reducible (replace h := of_decide_eq_false h) | with_reducible (replace h := bnt h) | with_reducible (replace h := bnf h) | with_reducible (replace h := Int.not_lt.mp h) | with_reducible (replace h := Int.not_le.mp h) | with_reducible (replace h := band_dec h) | with_reducible (replace h := band_decF h) | with_reducible (replace h := bor_dec h) | with_reducible (replace h := bor_decF h)))) <;> (try (exfalso; first | contradiction | omega))) | ((with_reducible (first | apply TD_e2z | apply TD_e3z | apply TL_e | apply TD_e2 | apply TD_e3)); ((with_reducible apply ES_callV (f := 54)); exact rfl; (intro w hw; exact hah w); exact rfl); (first | exact rfl | exact ⟨rfl, rfl, rfl⟩); (rintro _ _ ⟨rfl, rfl⟩); (try refine ⟨SUB, ?_⟩)) | ((with_reducible (first | apply TD_e2z | apply TD_e3z | apply TL_e | apply TD_e2 | apply TD_e3)); ((with_reducible apply ES_callV (f := 50)); exact rfl; (intro w' hw; exact hhas2 _ _ w' hw (by first | ((repeat (first | with_reducible exact List.mem_cons_self | with_reducible apply List.mem_cons_of_mem)); done) | (repeat (first | exact List.Mem.head _ | apply List.Mem.tail))) (by first | ((repeat (first | with_reducible exact List.mem_cons_self | with_reducible apply List.mem_cons_of_mem)); done) | (repeat (first | exact List.Mem.head _ | apply List.Mem.tail)))); exact rfl); (first | exact rfl | exact ⟨rfl, rfl, rfl⟩); (rintro _ _ ⟨rfl, rfl⟩); (try refine ⟨SUB, ?_⟩)) | fail)
              exact At_rounds (j + 1, b2) ⟨hjl, hnext b2 (by simp)⟩ (by (try dsimp only); omega) (by (repeat (first | exact SubE.nil _ | refine SubE.cons rfl ?_))) (by exact SUBS)
        · obtain rfl : j = cs.length := by omega
          have hcr : canR ts cs f w i = true ↔ b2 = true := by
            rw [canR_iff, hb2, hfit]
            exact ⟨fun ⟨_, h2, h3⟩ => ⟨h2, h3⟩, fun ⟨h2, h3⟩ => ⟨hbit, h2, h3⟩⟩
          cases b2 with
          | false =>
            repeat' (first | ((first | with_reducible (first | apply TL_q | apply TD_q0 | apply TD_q1 | apply TD_q2 | apply TD_q3) | ((with_reducible (first | apply TD_q0y | apply TD_q1y)); exact rfl; exact rfl; (with_reducible exact rfl))); (first | exact QS.auto | ((with_reducible apply QS_neqNil); exact rfl; exact rfl)); exact rfl) | (refine GO ?_) | (refine GOE ?_; (first | (rintro _ _ ⟨rfl, rfl⟩) | (rintro _ _ ⟨g, rfl, rfl⟩) | (rintro _ _ ⟨A', c', rfl, rfl⟩))) | ((refine GO2 ?_ ?_) <;> intro h <;> (try (repeat (first | with_reducible (replace h := of_decide_eq_true h) | with_reducible (replace h := of_decide_eq_false h) | with_reducible (replace h := bnt h) | with_reducible (replace h := bnf h) | with_reducible (replace h := Int.not_lt.mp h) | with_reducible (replace h := Int.not_le.mp h) | with_reducible (replace h := band_dec h) | with_reducible (replace h := band_decF h) | with_reducible (replace h := bor_dec h) | with_reducible (replace h := bor_decF h)))) <;> (try (exfalso; first | contradiction | omega))) | fail)
            refine At_rounds (i + 1) ⟨hil, fun a ha => ?_⟩ (by omega) (by (repeat (first | exact SubE.nil _ | refine SubE.cons rfl ?_))) (by exact SUBS)
            by_cases e : a = i
            · subst e; exact tryR_no (fun h => by have := hcr.1 h; cases this)
            · exact hno a (by omega)
          | true =>
            have hcan := hcr.2 rfl
            have hput := unset_put hil hbit
            obtain ⟨k', rfl⟩ : ∃ k', k = k' + 1 := ⟨k - 1, by omega⟩
            have hk' : unset cs.length (maskW (nextW ts cs w i)) = k' := by rw [maskW_next]; omega
            have htry := tryR_yes (ts := ts) (cs := cs) (f := f) (k := k') hcan
            have hih := fun (C : Ctx) (R' : List Ent) (w' : World) (A5 : Option Addr) (c5 : Nat) (hw : Mem C w' ([entOwn Stp.enc 2 125 A5 c5 (nextW ts cs w i)] ++ R')) (e1 : C.F = F) (e2 : C.w0 = W) =>
              hrec k' rfl (nextW ts cs w i) A5 c5 w' 0 (good_next hcs hR hg hil hcan) hk' (hrT C _ w' e1 e2 hw) (hrB C _ w' e1 e2 hw) (fun _ h => by rw [hnx] at h; simp at h) (hawT C _ R' w' e1 e2 hw) (hawB C _ R' w' e1 e2 hw) (hw.self 0)
            generalize srchR ts cs f k' (nextW ts cs w i) = o at *
            rw [hnx] at hih
            cases o with
            | some r =>
              repeat' (first | ((first | with_reducible (first | apply TL_q | apply TD_q0 | apply TD_q1 | apply TD_q2 | apply TD_q3) | ((with_reducible (first | apply TD_q0y | apply TD_q1y)); exact rfl; exact rfl; (with_reducible exact rfl))); (first | exact QS.auto | ((with_reducible apply QS_neqNil); exact rfl; exact rfl)); exact rfl) | (refine GG ?_) | (refine GE ?_; (first | (rintro _ _ ⟨rfl, rfl⟩) | (rintro _ _ ⟨g, rfl, rfl⟩) | (rintro _ _ ⟨A', c', rfl, rfl⟩)); (try refine ⟨SUB, ?_⟩)) | ((refine GO2 ?_ ?_) <;> intro h <;> (try (repeat (first | with_reducible (replace h := of_decide_eq_true h) | with_reducible (replace h := of_decide_eq_false h) | with_reducible (replace h := bnt h) | with_reducible (replace h := bnf h) | with_reducible (replace h := Int.not_lt.mp h) | with_reducible (replace h := Int.not_le.mp h) | with_reducible (replace h := band_dec h) | with_reducible (replace h := band_decF h) | with_reducible (replace h := bor_dec h) | with_reducible (replace h := bor_decF h)))) <;> (try (exfalso; first | contradiction | omega))) | (refine GOF ?_ ?_) | ((with_reducible apply T_draw (id := 24) 1000 (OT.seq [(0, 0), (0, 1), (0, 4), (0, 7), (1, 2), (1, 6), (0, 8)] (.fork (OT.seq [(2, 3)] (.fork (OT.seq [(2, 5), (2, 9), (2, 10), (2, 11), (0, 12)] .nil) (OT.seq [(2, 9), (2, 5), (2, 10), (2, 11), (0, 12)] .nil))) (OT.seq [(2, 9), (2, 3), (2, 5), (2, 10), (2, 11), (0, 12)] .nil)))); kernel_rfl; exact rfl; kernel_rfl; (repeat (first | with_reducible exact Blind.body | with_reducible apply Blind.seq | with_reducible apply Blind.block))) | ((with_reducible (first | apply TD_e2z | apply TD_e3z | apply TL_e | apply TD_e2 | apply TD_e3)); ((with_reducible apply ES_buildSlice0 Stp.enc); exact rfl); (first | exact rfl | exact ⟨rfl, rfl, rfl⟩); (rintro _ _ ⟨g, rfl, rfl⟩); (try refine ⟨SUB, ?_⟩)) | ((with_reducible (first | apply TD_e2z | apply TD_e3z | apply TL_e | apply TD_e2 | apply TD_e3)); ((with_reducible apply ES_append (enc := Stp.enc) (xs := w) (ls := [])); exact rfl; exact rfl; exact Lies.ownS (ls := w) (by first | ((repeat (first | with_reducible exact List.mem_cons_self | with_reducible apply List.mem_cons_of_mem)); done) | (repeat (first | exact List.Mem.head _ | apply List.Mem.tail))) (fun h => by cases h) (fun _ => rfl); exact fun _ => rfl; exact fun _ => rfl; (intro A' c'; first | ((repeat (first | with_reducible exact Upd.here _ _ _ | with_reducible apply Upd.there)); done) | (repeat (first | exact Upd.here _ _ _ | apply Upd.there))); (simp; omega); decide; exact rfl); (first | exact rfl | exact ⟨rfl, rfl, rfl⟩); (rintro _ _ ⟨A', c', rfl, rfl⟩); (try refine ⟨SUB, ?_⟩)) | ((with_reducible (first | apply TD_e2z | apply TD_e3z | apply TL_e | apply TD_e2 | apply TD_e3)); ((with_reducible apply ES_append1 (enc := Stp.enc) (xx := (⟨(i : Int), R.2.1⟩ : Stp))); exact rfl; exact rfl; (repeat (first | with_reducible exact List.mem_cons_self | with_reducible apply List.mem_cons_of_mem)); exact rfl; exact fun _ => rfl; exact fun _ => rfl; (intro A' c'; first | ((repeat (first | with_reducible exact Upd.here _ _ _ | with_reducible apply Upd.there)); done) | (repeat (first | exact Upd.here _ _ _ | apply Upd.there))); (simp; omega); decide; exact rfl); (first | exact rfl | exact ⟨rfl, rfl, rfl⟩); (rintro _ _ ⟨A', c', rfl, rfl⟩); (try refine ⟨SUB, ?_⟩)) | ((with_reducible (first | apply TD_e2z | apply TD_e3z | apply TL_e | apply TD_e2 | apply TD_e3)); ((with_reducible apply ES_callX (f := 23) (X := Addr × Nat) (S1 := [entOwn Stp.enc 2 125 A' c' ([] ++ w ++ [(⟨(i : Int), R.2.1⟩ : Stp)])]) (outV (some r)) (outS (some r))); exact rfl; ((repeat (first | exact Pull.nil _ | (apply Pull.cons; (repeat (first | with_reducible exact Pick.here _ _ | with_reducible apply Pick.there)))))); (intro x; dsimp only [outS]; repeat (first | exact AppL.nil _ | apply AppL.cons)); (intro w' hw; exact hih _ _ w' A' c' hw rfl rfl); exact rfl); (first | exact rfl | exact ⟨rfl, rfl, rfl⟩); (rintro _ _ ⟨⟨a9, c9⟩, rfl, rfl⟩); (try refine ⟨SUB, ?_⟩)) | fail)
              all_goals
                (refine At_ret Try.results23 rfl (fun w' hw => ?_))
                have hsr : srchR ts cs f (k' + 1) w = some r := srch_some _ _ _ _ hnc hil hno htry
                rw [hsr]
                exact ⟨(a9, c9), rfl, (hw.anyN 0).sub (by first | ((repeat (first | with_reducible exact List.nil_sublist _ | with_reducible exact List.Sublist.refl _ | with_reducible apply List.Sublist.cons_cons | with_reducible apply List.Sublist.cons)); done) | (repeat (first | exact List.nil_sublist _ | exact List.Sublist.refl _ | apply List.Sublist.cons_cons | apply List.Sublist.cons)))⟩
            | none =>
              repeat' (first | ((first | with_reducible (first | apply TL_q | apply TD_q0 | apply TD_q1 | apply TD_q2 | apply TD_q3) | ((with_reducible (first | apply TD_q0y | apply TD_q1y)); exact rfl; exact rfl; (with_reducible exact rfl))); (first | exact QS.auto | ((with_reducible apply QS_neqNil); exact rfl; exact rfl)); exact rfl) | (refine GG ?_) | (refine GE ?_; (first | (rintro _ _ ⟨rfl, rfl⟩) | (rintro _ _ ⟨g, rfl, rfl⟩) | (rintro _ _ ⟨A', c', rfl, rfl⟩)); (try refine ⟨SUB, ?_⟩)) | ((refine GO2 ?_ ?_) <;> intro h <;> (try (repeat (first | with_reducible (replace h := of_decide_eq_true h) | with_reducible (replace h := of_decide_eq_false h) | with_reducible (replace h := bnt h) | with_reducible (replace h := bnf h) | with_reducible (replace h := Int.not_lt.mp h) | with_reducible (replace h := Int.not_le.mp h) | with_reducible (replace h := band_dec h) | with_reducible (replace h := band_decF h) | with_reducible (replace h := bor_dec h) | with_reducible (replace h := bor_decF h)))) <;> (try (exfalso; first | contradiction | omega))) | (refine GOF ?_ ?_) | ((with_reducible apply T_draw (id := 24) 1000 (OT.seq [(0, 0), (0, 1), (0, 4), (0, 7), (1, 2), (1, 6), (0, 8)] (.fork (OT.seq [(2, 3)] (.fork (OT.seq [(2, 5), (2, 9), (2, 10), (2, 11), (0, 12)] .nil) (OT.seq [(2, 9), (2, 5), (2, 10), (2, 11), (0, 12)] .nil))) (OT.seq [(2, 9), (2, 3), (2, 5), (2, 10), (2, 11), (0, 12)] .nil)))); kernel_rfl; exact rfl; kernel_rfl; (repeat (first | with_reducible exact Blind.body | with_reducible apply Blind.seq | with_reducible apply Blind.block))) | ((with_reducible (first | apply TD_e2z | apply TD_e3z | apply TL_e | apply TD_e2 | apply TD_e3)); ((with_reducible apply ES_buildSlice0 Stp.enc); exact rfl); (first | exact rfl | exact ⟨rfl, rfl, rfl⟩); (rintro _ _ ⟨g, rfl, rfl⟩); (try refine ⟨SUB, ?_⟩)) | ((with_reducible (first | apply TD_e2z | apply TD_e3z | apply TL_e | apply TD_e2 | apply TD_e3)); ((with_reducible apply ES_append (enc := Stp.enc) (xs := w) (ls := [])); exact rfl; exact rfl; exact Lies.ownS (ls := w) (by first | ((repeat (first | with_reducible exact List.mem_cons_self | with_reducible apply List.mem_cons_of_mem)); done) | (repeat (first | exact List.Mem.head _ | apply List.Mem.tail))) (fun h => by cases h) (fun _ => rfl); exact fun _ => rfl; exact fun _ => rfl; (intro A' c'; first | ((repeat (first | with_reducible exact Upd.here _ _ _ | with_reducible apply Upd.there)); done) | (repeat (first | exact Upd.here _ _ _ | apply Upd.there))); (simp; omega); decide; exact rfl); (first | exact rfl | exact ⟨rfl, rfl, rfl⟩); (rintro _ _ ⟨A', c', rfl, rfl⟩); (try refine ⟨SUB, ?_⟩)) | ((with_reducible (first | apply TD_e2z | apply TD_e3z | apply TL_e | apply TD_e2 | apply TD_e3)); ((with_reducible apply ES_append1 (enc := Stp.enc) (xx := (⟨(i : Int), R.2.1⟩ : Stp))); exact rfl; exact rfl; (repeat (first | with_reducible exact List.mem_cons_self | with_reducible apply List.mem_cons_of_mem)); exact rfl; exact fun _ => rfl; exact fun _ => rfl; (intro A' c'; first | ((repeat (first | with_reducible exact Upd.here _ _ _ | with_reducible apply Upd.there)); done) | (repeat (first | exact Upd.here _ _ _ | apply Upd.there))); (simp; omega); decide; exact rfl); (first | exact rfl | exact ⟨rfl, rfl, rfl⟩); (rintro _ _ ⟨A', c', rfl, rfl⟩); (try refine ⟨SUB, ?_⟩)) | ((with_reducible (first | apply TD_e2z | apply TD_e3z | apply TL_e | apply TD_e2 | apply TD_e3)); ((with_reducible apply ES_callX (f := 23) (X := Addr × Nat) (S1 := [entOwn Stp.enc 2 125 A' c' ([] ++ w ++ [(⟨(i : Int), R.2.1⟩ : Stp)])]) (outV none) (outS none)); exact rfl; ((repeat (first | exact Pull.nil _ | (apply Pull.cons; (repeat (first | with_reducible exact Pick.here _ _ | with_reducible apply Pick.there)))))); (intro x; dsimp only [outS]; repeat (first | exact AppL.nil _ | apply AppL.cons)); (intro w' hw; exact hih _ _ w' A' c' hw rfl rfl); exact rfl); (first | exact rfl | exact ⟨rfl, rfl, rfl⟩); (rintro _ _ ⟨⟨a9, c9⟩, rfl, rfl⟩); (try refine ⟨SUB, ?_⟩)) | fail)
              all_goals
                refine At_rounds (i + 1) ⟨hil, fun a ha => ?_⟩ (by omega) (by (repeat (first | exact SubE.nil _ | refine SubE.cons rfl ?_))) (by exact SUBS)
                by_cases e : a = i
                · subst e; exact htry
                · exact hno a (by omega)
    · obtain rfl : i = cs.length := by omega
      have hsr : srchR ts cs f k w = none := srch_none _ _ _ _ hnc hno
      rw [hsr]
      repeat' (first | ((first | with_reducible (first | apply TL_q | apply TD_q0 | apply TD_q1 | apply TD_q2 | apply TD_q3) | ((with_reducible (first | apply TD_q0y | apply TD_q1y)); exact rfl; exact rfl; (with_reducible exact rfl))); (first | exact QS.auto | ((with_reducible apply QS_neqNil); exact rfl; exact rfl)); exact rfl) | (refine GO ?_) | (refine GOE ?_; (first | (rintro _ _ ⟨rfl, rfl⟩) | (rintro _ _ ⟨g, rfl, rfl⟩) | (rintro _ _ ⟨A', c', rfl, rfl⟩))) | ((refine GO2 ?_ ?_) <;> intro h <;> (try (repeat (first | with_reducible (replace h := of_decide_eq_true h) | with_reducible (replace h := of_decide_eq_false h) | with_reducible (replace h := bnt h) | with_reducible (replace h := bnf h) | with_reducible (replace h := Int.not_lt.mp h) | with_reducible (replace h := Int.not_le.mp h) | with_reducible (replace h := band_dec h) | with_reducible (replace h := band_decF h) | with_reducible (replace h := bor_dec h) | with_reducible (replace h := bor_decF h)))) <;> (try (exfalso; first | contradiction | omega))) | fail)
      (refine At_ret Try.results23 rfl (fun w' hw => ?_))
      exact ⟨(ad, c), rfl, (hw.anyN 0).sub (by first | ((repeat (first | with_reducible exact List.nil_sublist _ | with_reducible exact List.Sublist.refl _ | with_reducible apply List.Sublist.cons_cons | with_reducible apply List.Sublist.cons)); done) | (repeat (first | exact List.nil_sublist _ | exact List.Sublist.refl _ | apply List.Sublist.cons_cons | apply List.Sublist.cons)))⟩
omit hts hcs h9 hR in
theorem least_all (hts : typesOk ts = true) (hcs : CallsOk ts cs) (h9 : cs.length ≤ 9) (hR : RelOk cs f) : ∀ k, LeastOk T B tc d ts cs n f k
  | 0 => least_step T B tc d ts cs n f hts hcs h9 hR 0 (fun k' h => by omega)
  | k + 1 => least_step T B tc d ts cs n f hts hcs h9 hR (k + 1) (fun k' h => by
    obtain rfl : k = k' := by omega
    exact least_all hts hcs h9 hR k)
end
end Go.Proofs.Ytaonijdhmgcbjaa

namespace Go.Proofs.Ytaonijdhmgcbjaa

def orP (P Q : Nat → Nat → Bool) (k m : Nat) (i j : Nat) : Bool := P i j || (Q i j && (decide (i < k) || (decide (i = k) && decide (j < m))))
def relN (R : Nat → Nat → Bool) (n : Nat) : Nat → Nat := fun i => if i < n then bitsTo (R i) n else 0
theorem bitsTo_same {p q : Nat → Bool} : ∀ {n : Nat}, (∀ j, j < n → p j = q j) → bitsTo p n = bitsTo q n
  | 0, _ => rfl
  | n + 1, h => by rw [bitsTo, bitsTo, bitsTo_same (fun j hj => h j (by omega)), h n (by omega)]
theorem bitsTo_off {p : Nat → Bool} : ∀ {n : Nat}, (∀ j, j < n → p j = false) → bitsTo p n = 0
  | 0, _ => rfl
  | n + 1, h => by rw [bitsTo, bitsTo_off (fun j hj => h j (by omega)), h n (by omega)]; rfl
theorem relN_congr {R R' : Nat → Nat → Bool} {n : Nat} (h : ∀ i j, i < n → j < n → R i j = R' i j) : relN R n = relN R' n := by
  funext i
  unfold relN
  by_cases hi : i < n
  · rw [if_pos hi, if_pos hi]; exact bitsTo_same fun j hj => h i j hi hj
  · rw [if_neg hi, if_neg hi]
theorem relN_0 (n : Nat) : relN (fun _ _ => false) n = fun _ => 0 := by
  funext i
  unfold relN
  split
  · exact bitsTo_off fun _ _ => rfl
  · rfl
theorem bitsTo_or {p q : Nat → Bool} {n m : Nat} (hm : m < n) (hq : ∀ j, j < n → q j = (p j || decide (j = m))) : bitsTo p n ||| 2 ^ m = bitsTo q n := by
  apply Nat.eq_of_testBit_eq
  intro j
  rw [Nat.testBit_or, bitsTo_testBit, bitsTo_testBit, Nat.testBit_two_pow]
  by_cases hj : j < n
  · rw [decide_eq_true hj, hq j hj]
    by_cases e : j = m
    · subst e; simp
    · rw [decide_eq_false e, decide_eq_false (fun h => e h.symm)]; simp
  · rw [decide_eq_false hj, decide_eq_false (show ¬ m = j by omega)]; rfl
theorem bitsTo_add {p q : Nat → Bool} {m : Nat} (hp : p m = false) : ∀ {n : Nat}, m < n → (∀ j, j < n → q j = (p j || decide (j = m))) → bitsTo p n + 2 ^ m = bitsTo q n
  | 0, h, _ => by omega
  | n + 1, hm, hq => by
    rw [bitsTo, bitsTo]
    have hn := hq n (by omega)
    by_cases e : n = m
    · subst e
      have h1 : bitsTo q n = bitsTo p n := bitsTo_same fun j hj => by rw [hq j (by omega), decide_eq_false (show ¬ j = n by omega)]; simp
      rw [h1, hn, hp, decide_eq_true rfl]; simp
    · have ih := bitsTo_add hp (n := n) (by omega) (fun j hj => hq j (by omega))
      rw [hn, decide_eq_false e, Bool.or_false]
      omega
section
variable {P Q : Nat → Nat → Bool} {n k m : Nat}
theorem orP_0 : orP P Q 0 0 = P := by
  funext i j
  unfold orP
  rw [decide_eq_false (show ¬ i < 0 by omega), decide_eq_false (show ¬ j < 0 by omega)]; simp
theorem relN_next : relN (orP P Q k n) n = relN (orP P Q (k + 1) 0) n := relN_congr fun i j hi hj => by
  unfold orP
  rw [decide_eq_true hj, decide_eq_false (show ¬ j < 0 by omega), Bool.and_true, Bool.and_false, Bool.or_false]
  congr 2
  rw [Bool.eq_iff_iff]; simp; omega
theorem relN_done : relN (orP P Q n 0) n = relN (fun i j => P i j || Q i j) n := relN_congr fun i j hi hj => by
  unfold orP
  rw [decide_eq_true hi]; simp
theorem orP_step (j : Nat) : orP P Q k (m + 1) k j = (orP P Q k m k j || (Q k m && decide (j = m))) := by
  unfold orP
  by_cases e : j = m
  · subst e
    rw [decide_eq_true (show j < j + 1 by omega), decide_eq_false (show ¬ j < j by omega)]; simp
  · rw [decide_eq_false e]
    have : decide (j < m + 1) = decide (j < m) := by rw [Bool.eq_iff_iff]; simp; omega
    rw [this]; simp
theorem orP_else {i : Nat} (h : i ≠ k) (m' j : Nat) : orP P Q k m i j = orP P Q k m' i j := by
  unfold orP; rw [decide_eq_false h]; simp
theorem relN_yes (hk : k < n) (hm : m < n) (h : Q k m = true) : upd (relN (orP P Q k m) n) k (relN (orP P Q k m) n k ||| 2 ^ m) = relN (orP P Q k (m + 1)) n := by
  funext i
  unfold upd relN
  by_cases e : i = k
  · subst e
    rw [if_pos rfl, if_pos hk, if_pos hk]
    exact bitsTo_or hm fun j _ => by rw [orP_step, h, Bool.true_and]
  · rw [if_neg e]
    split
    · exact bitsTo_same fun j _ => orP_else e _ _
    · rfl
theorem relN_add (hk : k < n) (hm : m < n) (h : Q k m = true) (hp : P k m = false) : upd (relN (orP P Q k m) n) k (relN (orP P Q k m) n k + 2 ^ m) = relN (orP P Q k (m + 1)) n := by
  funext i
  unfold upd relN
  by_cases e : i = k
  · subst e
    rw [if_pos rfl, if_pos hk, if_pos hk]
    exact bitsTo_add (by unfold orP; rw [hp]; simp) hm fun j _ => by rw [orP_step, h, Bool.true_and]
  · rw [if_neg e]
    split
    · exact bitsTo_same fun j _ => orP_else e _ _
    · rfl
theorem relN_no (h : Q k m = false) : relN (orP P Q k m) n = relN (orP P Q k (m + 1)) n := relN_congr fun i j hi hj => by
  by_cases e : i = k
  · subst e; rw [orP_step, h]; simp
  · exact orP_else e _ _
end
theorem relN_lt (R : Nat → Nat → Bool) {n : Nat} (hn : n ≤ 16) (i : Nat) : relN R n i < 65536 := by
  unfold relN
  split
  · exact bitsTo_lt_16 _ hn
  · decide
theorem relN_bit (R : Nat → Nat → Bool) (n i j : Nat) : (relN R n i).testBit j = (decide (i < n) && (decide (j < n) && R i j)) := by
  unfold relN
  by_cases h : i < n
  · rw [if_pos h, bitsTo_testBit, decide_eq_true h, Bool.true_and]
  · rw [if_neg h, decide_eq_false h]; simp
end Go.Proofs.Ytaonijdhmgcbjaa
