/- Lemmas for the walks (Sea4, Sea5). No condition. -/
import Derived.Test.YtjdckepbihcgfaaGreatDoorG12
import Derived.Test.YtjdckepbihcgfaaGreatDoorG11
set_option linter.unusedSimpArgs false
set_option linter.unusedVariables false
set_option linter.unusedSectionVars false
set_option linter.unnecessarySimpa false
namespace Go.Proofs.YtjdckepbihcgfaaGreatDoor
open Go.RowKit

structure Fn where
  hA : Option Addr
  hc : Nat
  hs : List Hd
  oA : Option Addr
  oc : Nat
  D : List ByteArray
section
variable (T B : Option Addr) (tc d : Nat) (ts : List Int) (cs : List Cl) (n : Int) (f : Nat → Nat) (gf gm : Nat)
@[reducible] def finS (x : Fn) (w : List Stp) : List Ent :=
  [entBlk gf 152 (finC (.slice T ts.length tc) (.slice B cs.length d) n f (.slice x.hA x.hs.length x.hc) (maskW w) (.slice x.oA w.length x.oc) gm),
   entOwn hdEnc 1 24 x.hA x.hc x.hs, entInner intEnc 1 3 x.hs (statesW ts cs w), entOwn Stp.enc 2 49 x.oA x.oc w, entSet gm x.D]
def Away (A : Option Addr) (F : List Nat) : Prop := ∀ b o, A = some ⟨b, o, none⟩ → b ∉ F
def runSays (k : Nat) (w : List Stp) (x : Fn) (W : World) : Prop :=
  Calls Tryz.prog 88 #[.pointer (some ⟨gf, 0, none⟩)] W fun e W' => ∃ y : {y : Fn // MemoOk ts cs f y.D},
    e = .returned (.bool (srchC ts cs f k w).isSome) ∧ Mem ⟨0, blks (finS T B tc d ts cs n f gf gm x w), W⟩ W' (finS T B tc d ts cs n f gf gm y.1 ((srchC ts cs f k w).getD w))
def tryC (k : Nat) (w : List Stp) (i : Nat) : Option (List Stp) := tryS (canC ts cs f) (nextW ts cs) (compW cs) cs.length k w i
def placeSays (k : Nat) (w : List Stp) (i : Nat) (x : Fn) (W : World) : Prop :=
  Calls Tryz.prog 135 #[.pointer (some ⟨gf, 0, none⟩), .int .i64 (i : Nat)] W fun e W' => ∃ y : {y : Fn // MemoOk ts cs f y.D},
    e = .returned (.bool (tryC ts cs f k w i).isSome) ∧ Mem ⟨0, blks (finS T B tc d ts cs n f gf gm x w), W⟩ W' (finS T B tc d ts cs n f gf gm y.1 ((tryC ts cs f k w i).getD w))
end
section
variable {ts : List Int} {cs : List Cl} {f : Nat → Nat}
theorem unmask {m i : Nat} (hm : m < 65536) (hi : i < 16) (hb : m.testBit i = false) : (m ||| 2 ^ i) &&& (65535 - 2 ^ i) = m := by
  have hp : 2 ^ i < 2 ^ 16 := Nat.pow_lt_pow_right (by decide) hi
  have e : 65535 - 2 ^ i = 2 ^ 16 - (2 ^ i + 1) := by omega
  refine Nat.eq_of_testBit_eq fun j => ?_
  rw [e, Nat.testBit_and, bit_put, Nat.testBit_two_pow_sub_succ hp, Nat.testBit_two_pow]
  by_cases e2 : i = j
  · subst e2; simp [hb]
  · by_cases hj : j < 16
    · simp [e2, hj]
    · have : m.testBit j = false := Nat.testBit_lt_two_pow (Nat.lt_of_lt_of_le hm (Nat.pow_le_pow_right (n := 2) (i := 16) (by decide) (by omega)))
      simp [this, e2]
theorem try_no {k : Nat} {w : List Stp} {i : Nat} (h : ¬ canC ts cs f w i = true) : tryC ts cs f k w i = none := by
  unfold tryC tryS; rw [if_neg h]
theorem try_yes {k : Nat} {w : List Stp} {i : Nat} (h : canC ts cs f w i = true) : tryC ts cs f (k + 1) w i = srchC ts cs f k (nextW ts cs w i) := by
  unfold tryC tryS; rw [if_pos h]; rfl
end
section
variable (T B : Option Addr) (tc d : Nat) (ts : List Int) (cs : List Cl) (n : Int) (f : Nat → Nat) (gf gm : Nat)
/-- from all that is so at the start -/
def RunOk (k : Nat) : Prop := ∀ (w : List Stp) (x : Fn) (W : World) (n0 : Nat), PathW ts cs w → MemoOk ts cs f x.D → unset cs.length (maskW w) = k → RdInt W T ts → RdCl W B cs →
  Away T (blks (finS T B tc d ts cs n f gf gm x w)) → (0 < cs.length → Away B (blks (finS T B tc d ts cs n f gf gm x w))) → Mem ⟨n0, blks (finS T B tc d ts cs n f gf gm x w), W⟩ W (finS T B tc d ts cs n f gf gm x w) → runSays T B tc d ts cs n f gf gm k w x W
variable (hcs : CallsOk ts cs) (h9 : cs.length ≤ 9) (hf16 : ∀ i, i < 12 → f i < 65536)
include hcs h9 hf16
set_option maxRecDepth 100000 in
set_option maxHeartbeats 4000000 in
theorem place_any (k : Nat) (hrun : ∀ k', k = k' + 1 → RunOk T B tc d ts cs n f gf gm k') (w : List Stp) (i : Nat) (x : Fn) (W : World) (n0 : Nat) (hi : i < cs.length) (hp : PathW ts cs w) (hD : MemoOk ts cs f x.D) (hk : unset cs.length (maskW w) = k) (hT : RdInt W T ts) (hB : RdCl W B cs)
    (haT : Away T (blks (finS T B tc d ts cs n f gf gm x w))) (haB : Away B (blks (finS T B tc d ts cs n f gf gm x w))) (hm : Mem ⟨n0, blks (finS T B tc d ts cs n f gf gm x w), W⟩ W (finS T B tc d ts cs n f gf gm x w)) :
    placeSays T B tc d ts cs n f gf gm k w i x W := by
  unfold placeSays
  obtain ⟨hA, hc, hs, oA, oc, D⟩ := x
  obtain ⟨F, hF⟩ : ∃ F, F = blks (finS T B tc d ts cs n f gf gm ⟨hA, hc, hs, oA, oc, D⟩ w) := ⟨_, rfl⟩
  rw [← hF] at haT haB hm ⊢
  have hcall := callAt_eq hi
  have hth := hcs i hi
  rw [hcall] at hth
  have hth0 := hth.1
  have hjt : cs[i].thing.toNat < ts.length := by omega
  have hsl := hp.sts.1
  have hml : maskW w < 2 ^ 9 := Nat.lt_of_lt_of_le (mask_lt hp) (Nat.pow_le_pow_right (by decide) h9)
  have hm16 : maskW w < 65536 := Nat.lt_trans hml (by decide)
  have hi12 : i < 12 := by omega
  have hfi := hf16 i hi12
  have hw9 : w.length ≤ 9 := by have := hp.len; omega
  have hss := stepO_is hcs hp.sts hi
  rw [hcall] at hss
  have hty : typAt ts cs[i].thing = ts[cs[i].thing.toNat] := by simp [typAt, List.getD_eq_getElem?_getD, hjt]
  have hzO := bitO (maskW w) i
  have hpow : 2 ^ i < 65536 := Nat.lt_of_le_of_lt (Nat.pow_le_pow_right (n := 2) (by decide) (show i ≤ 9 by omega)) (by decide)
  have hmask1 := maskW_next ts cs w i
  have hm1 : (maskW w ||| 2 ^ i) < 65536 := Nat.or_lt_two_pow (n := 16) hm16 hpow
  obtain ⟨bT, oT, rfl, hbT⟩ := RdE.open hT (by omega)
  obtain ⟨bB, oB, rfl, hbB⟩ := RdE.open hB (by omega)
  have hTF : bT ∉ F := haT _ _ rfl
  have hBF : bB ∉ F := haB _ _ rfl
  have hsl' : hs.length = (statesW ts cs w).length := hm.innerLen (enc := intEnc) (M := 1) (e := 3) (by unfold finS; first | ((repeat (first | with_reducible exact List.mem_cons_self | with_reducible apply List.mem_cons_of_mem)); done) | (repeat (first | exact List.Mem.head _ | apply List.Mem.tail)))
  have hjl : cs[i].thing.toNat < hs.length := by omega
  have hjs : cs[i].thing.toNat < (statesW ts cs w).length := by omega
  obtain ⟨hn, hRow⟩ := hm.innerRd (enc := intEnc) (M := 1) (e := 3) (by unfold finS; first | ((repeat (first | with_reducible exact List.mem_cons_self | with_reducible apply List.mem_cons_of_mem)); done) | (repeat (first | exact List.Mem.head _ | apply List.Mem.tail))) (fun _ => rfl) hjl hjs
  have hrows := (stsOk_bounds hp.sts) _ (List.getElem_mem hjs)
  have hgetD : (statesW ts cs w).getD cs[i].thing.toNat [] = (statesW ts cs w)[cs[i].thing.toNat] := by simp [List.getD_eq_getElem?_getD, hjs]
  rw [hgetD, hty] at hss
  obtain ⟨aR, cR, hh⟩ : ∃ aR cR, hs[cs[i].thing.toNat] = ⟨aR, (statesW ts cs w)[cs[i].thing.toNat].length, cR⟩ := ⟨hs[cs[i].thing.toNat].a, hs[cs[i].thing.toNat].c, by rw [← hn]⟩
  have hhead : (hdEnc hs[cs[i].thing.toNat])[0]? = some (.slice aR (statesW ts cs w)[cs[i].thing.toNat].length cR) := by rw [hh]; rfl
  have hstep := fun (w' : World) (h : RdInt w' aR (statesW ts cs w)[cs[i].thing.toNat]) => objStep_any aR cR (statesW ts cs w)[cs[i].thing.toNat] ts[cs[i].thing.toNat] cs[i].kind cs[i].arg w' h (by omega)
  rw [hss] at hstep
  have hrd : ∀ {C : Ctx} {S : List Ent} {W' : World}, Mem C W' S → entInner intEnc 1 3 hs (statesW ts cs w) ∈ S → RdInt W' aR (statesW ts cs w)[cs[i].thing.toNat] := fun hw hm => by
    have := (hw.innerRd hm (fun _ => rfl) hjl hjs).2
    rw [hh] at this; exact this
  unfold finS at hm
  dsimp only at hm
  refine calls_T F Tryz.func135 rfl Tryz.ntmps135 (by simp) (hm.anyN _) ?_
  refine T_own (ls := hs) Zm (by omega) ?_
  rintro gh rfl
  repeat' (first | ((first | with_reducible (first | apply TL_q | apply TD_q0 | apply TD_q1 | apply TD_q2 | apply TD_q3) | ((with_reducible (first | apply TD_q0y | apply TD_q1y)); exact rfl; exact rfl; (with_reducible exact rfl))); (first | ((with_reducible apply QS_load); exact rfl; exact Lds.own1 (enc := hdEnc) Zm (fun _ => rfl) hjl hhead) | ((with_reducible apply QS_load); exact rfl; exact Lds.blk Zm (fin_after hi12)) | exact QS.auto | ((with_reducible apply QS_lookStr); exact rfl; exact rfl; (first | ((repeat (first | with_reducible exact List.mem_cons_self | with_reducible apply List.mem_cons_of_mem)); done) | (repeat (first | exact List.Mem.head _ | apply List.Mem.tail)))) | ((with_reducible apply QS_sliceHighZ (j := w.length)); exact rfl; exact rfl; omega; omega)); exact rfl) | refine GO ?_ | (refine GOE ?_; (first | rintro _ _ ⟨rfl, rfl⟩ | rintro _ _ ⟨g, rfl, rfl⟩ | rintro _ _ ⟨A', c', rfl, rfl⟩)) | (refine GO2 ?_ ?_ <;> (refine Zs ?_; intro h; try exact Zx)) | fail)
  obtain ⟨gC, rfl⟩ : ∃ x, x = g := ⟨_, rfl⟩
  repeat' (first | ((first | with_reducible (first | apply TL_q | apply TD_q0 | apply TD_q1 | apply TD_q2 | apply TD_q3) | ((with_reducible (first | apply TD_q0y | apply TD_q1y)); exact rfl; exact rfl; (with_reducible exact rfl))); (first | ((with_reducible apply QS_load); exact rfl; exact Lds.own1 (enc := hdEnc) Zm (fun _ => rfl) hjl hhead) | ((with_reducible apply QS_load); exact rfl; exact Lds.blk Zm (fin_after hi12)) | exact QS.auto | ((with_reducible apply QS_lookStr); exact rfl; exact rfl; (first | ((repeat (first | with_reducible exact List.mem_cons_self | with_reducible apply List.mem_cons_of_mem)); done) | (repeat (first | exact List.Mem.head _ | apply List.Mem.tail)))) | ((with_reducible apply QS_sliceHighZ (j := w.length)); exact rfl; exact rfl; omega; omega)); exact rfl) | refine GG ?_ | (refine GE ?_; (first | rintro _ _ ⟨rfl, rfl⟩ | rintro _ _ ⟨g, rfl, rfl⟩ | rintro _ _ ⟨A', c', rfl, rfl⟩); (try refine ⟨SUB, ?_⟩)) | (refine GO2 ?_ ?_ <;> (refine Zs ?_; intro h; try exact Zx)) | refine GOF ?_ ?_ | ((with_reducible apply T_draw (id := 2) 1000 (OT.seq [(0, 0), (0, 1), (0, 2), (0, 4), (0, 5), (1, 3), (0, 6), (0, 7), (0, 8), (0, 9), (0, 10), (0, 11), (0, 12), (0, 13), (0, 14), (0, 15), (0, 17), (0, 18), (0, 19), (1, 16), (1, 20), (0, 21), (0, 22), (0, 23)] .nil)); kernel_rfl; exact rfl; kernel_rfl; (repeat (first | with_reducible exact Blind.body | with_reducible apply Blind.seq | with_reducible apply Blind.block))) | ((with_reducible apply T_draw (id := 4) 1000 (OT.seq [(0, 0), (0, 1), (0, 2), (0, 4), (1, 3), (1, 5), (0, 6), (1, 7), (0, 8)] .nil)); kernel_rfl; exact rfl; kernel_rfl; (repeat (first | with_reducible exact Blind.body | with_reducible apply Blind.seq | with_reducible apply Blind.block))) | ((with_reducible apply T_draw (id := 5) 1000 (OT.seq [(0, 0), (0, 1), (0, 2), (0, 4), (0, 8), (0, 9), (0, 11), (1, 3), (1, 5), (0, 6), (1, 7), (1, 10), (1, 12), (2, 13), (0, 14), (0, 15), (0, 16), (0, 17), (0, 18), (0, 19), (0, 20)] .nil)); kernel_rfl; exact rfl; kernel_rfl; (repeat (first | with_reducible exact Blind.body | with_reducible apply Blind.seq | with_reducible apply Blind.block))) | ((with_reducible apply T_draw (id := 8) 8 (OT.seq [(0, 0), (0, 1), (0, 2), (0, 4), (0, 6), (1, 3), (1, 5), (0, 7), (3, 8)] .nil)); kernel_rfl; exact rfl; kernel_rfl; (repeat (first | with_reducible exact Blind.body | with_reducible apply Blind.seq | with_reducible apply Blind.block))) | ((with_reducible apply T_draw (id := 13) 8 (OT.seq [(0, 0), (0, 1), (0, 2), (0, 4), (0, 6), (1, 3), (1, 5), (0, 7), (3, 8)] .nil)); kernel_rfl; exact rfl; kernel_rfl; (repeat (first | with_reducible exact Blind.body | with_reducible apply Blind.seq | with_reducible apply Blind.block))) | ((with_reducible apply T_draw (id := 15) 14 (OT.seq [(0, 0), (0, 1), (0, 2), (0, 3), (0, 5), (0, 6), (0, 7), (1, 4), (1, 8), (0, 9), (0, 10), (0, 11), (0, 12), (0, 13), (3, 14)] .nil)); kernel_rfl; exact rfl; kernel_rfl; (repeat (first | with_reducible exact Blind.body | with_reducible apply Blind.seq | with_reducible apply Blind.block))) | ((with_reducible (first | apply TD_e2z | apply TD_e3z | apply TL_e | apply TD_e2 | apply TD_e3)); ((with_reducible apply ES_callOwn (f := 172)); exact rfl; (intro w hw; exact hstep w (hrd hw Zm)); exact rfl); (first | exact rfl | exact ⟨rfl, rfl, rfl⟩); (rintro _ _ ⟨A2, c2, rfl, rfl⟩); (try refine ⟨SUB, ?_⟩)) | fail)
  · (refine At_ret Tryz.results135 rfl (fun w' hw => ?_))
    have hno : tryC ts cs f k w i = none := try_no (by rw [canC_iff, hzO.1 (by assumption)]; simp)
    rw [hno]
    exact ⟨⟨⟨_, hc, hs, oA, oc, D⟩, hD⟩, rfl, (hw.anyN 0).sub (by first | ((repeat (first | with_reducible exact List.nil_sublist _ | with_reducible exact List.Sublist.refl _ | with_reducible apply List.Sublist.cons_cons | with_reducible apply List.Sublist.cons)); done) | (repeat (first | exact List.nil_sublist _ | exact List.Sublist.refl _ | apply List.Sublist.cons_cons | apply List.Sublist.cons)))⟩
  · (refine At_ret Tryz.results135 rfl (fun w' hw => ?_))
    have hno : tryC ts cs f k w i = none := try_no (fun hcc => ‹¬ ((f i &&& maskW w : Nat) : Int) = 0› (by rw [(canC_iff.1 hcc).2.1]; rfl))
    rw [hno]
    exact ⟨⟨⟨_, hc, hs, oA, oc, D⟩, hD⟩, rfl, (hw.anyN 0).sub (by first | ((repeat (first | with_reducible exact List.nil_sublist _ | with_reducible exact List.Sublist.refl _ | with_reducible apply List.Sublist.cons_cons | with_reducible apply List.Sublist.cons)); done) | (repeat (first | exact List.nil_sublist _ | exact List.Sublist.refl _ | apply List.Sublist.cons_cons | apply List.Sublist.cons)))⟩
  · (refine At_ret Tryz.results135 rfl (fun w' hw => ?_))
    have hno : tryC ts cs f k w i = none := try_no (fun hcc => ‹¬ (stepSt ts cs (statesW ts cs w) i).2.2 = 0› (fitsSt_iff.1 (canC_iff.1 hcc).2.2).1)
    rw [hno]
    exact ⟨⟨⟨_, hc, hs, oA, oc, D⟩, hD⟩, rfl, (hw.anyN 0).sub (by first | ((repeat (first | with_reducible exact List.nil_sublist _ | with_reducible exact List.Sublist.refl _ | with_reducible apply List.Sublist.cons_cons | with_reducible apply List.Sublist.cons)); done) | (repeat (first | exact List.nil_sublist _ | exact List.Sublist.refl _ | apply List.Sublist.cons_cons | apply List.Sublist.cons)))⟩
  · (refine At_ret Tryz.results135 rfl (fun w' hw => ?_))
    have hno : tryC ts cs f k w i = none := try_no (fun hcc => by
      rcases (fitsSt_iff.1 (canC_iff.1 hcc).2.2).2 with h1 | h1
      · rw [hcall] at h1; exact absurd h1 (by assumption)
      · rw [hcall] at h1; exact absurd h1 (by assumption))
    rw [hno]
    exact ⟨⟨⟨_, hc, hs, oA, oc, D⟩, hD⟩, rfl, (hw.anyN 0).sub (by first | ((repeat (first | with_reducible exact List.nil_sublist _ | with_reducible exact List.Sublist.refl _ | with_reducible apply List.Sublist.cons_cons | with_reducible apply List.Sublist.cons)); done) | (repeat (first | exact List.nil_sublist _ | exact List.Sublist.refl _ | apply List.Sublist.cons_cons | apply List.Sublist.cons)))⟩
  all_goals
    have hb0 : (maskW w).testBit i = false := by
      cases hb : (maskW w).testBit i with
      | false => rfl
      | true => exact absurd (hzO.2 hb) (by assumption)
    have hfit : fitsSt ts cs (statesW ts cs w) i = true := fitsSt_iff.2 ⟨by assumption, by rw [hcall]; first | exact .inl (by assumption) | exact .inr (by assumption)⟩
    have hcan : canC ts cs f w i = true := canC_iff.2 ⟨hb0, by omega, hfit⟩
    have hs0 := (fitsSt_iff.1 hfit).1
    have hp' := path_next hcs hp hi hb0 hs0
    have hnx : nextW ts cs w i = w ++ [⟨(i : Int), (stepSt ts cs (statesW ts cs w) i).2.1⟩] := rfl
    have hst' := statesW_next ts cs w i
    rw [hcall] at hst'
    generalize hR : stepSt ts cs (statesW ts cs w) i = R at *
    repeat' (first | ((first | with_reducible (first | apply TL_q | apply TD_q0 | apply TD_q1 | apply TD_q2 | apply TD_q3) | ((with_reducible (first | apply TD_q0y | apply TD_q1y)); exact rfl; exact rfl; (with_reducible exact rfl))); (first | ((with_reducible apply QS_load); exact rfl; exact Lds.own1 (enc := hdEnc) Zm (fun _ => rfl) hjl hhead) | ((with_reducible apply QS_load); exact rfl; exact Lds.blk Zm (fin_after hi12)) | exact QS.auto | ((with_reducible apply QS_lookStr); exact rfl; exact rfl; (first | ((repeat (first | with_reducible exact List.mem_cons_self | with_reducible apply List.mem_cons_of_mem)); done) | (repeat (first | exact List.Mem.head _ | apply List.Mem.tail)))) | ((with_reducible apply QS_sliceHighZ (j := w.length)); exact rfl; exact rfl; omega; omega)); exact rfl) | refine GG ?_ | (refine GE ?_; (first | rintro _ _ ⟨rfl, rfl⟩ | rintro _ _ ⟨g, rfl, rfl⟩ | rintro _ _ ⟨A', c', rfl, rfl⟩); (try refine ⟨SUB, ?_⟩)) | (refine GO2 ?_ ?_ <;> (refine Zs ?_; intro h; try exact Zx)) | refine GOF ?_ ?_ | ((with_reducible apply T_draw (id := 2) 1000 (OT.seq [(0, 0), (0, 1), (0, 2), (0, 4), (0, 5), (1, 3), (0, 6), (0, 7), (0, 8), (0, 9), (0, 10), (0, 11), (0, 12), (0, 13), (0, 14), (0, 15), (0, 17), (0, 18), (0, 19), (1, 16), (1, 20), (0, 21), (0, 22), (0, 23)] .nil)); kernel_rfl; exact rfl; kernel_rfl; (repeat (first | with_reducible exact Blind.body | with_reducible apply Blind.seq | with_reducible apply Blind.block))) | ((with_reducible apply T_draw (id := 4) 1000 (OT.seq [(0, 0), (0, 1), (0, 2), (0, 4), (1, 3), (1, 5), (0, 6), (1, 7), (0, 8)] .nil)); kernel_rfl; exact rfl; kernel_rfl; (repeat (first | with_reducible exact Blind.body | with_reducible apply Blind.seq | with_reducible apply Blind.block))) | ((with_reducible apply T_draw (id := 5) 1000 (OT.seq [(0, 0), (0, 1), (0, 2), (0, 4), (0, 8), (0, 9), (0, 11), (1, 3), (1, 5), (0, 6), (1, 7), (1, 10), (1, 12), (2, 13), (0, 14), (0, 15), (0, 16), (0, 17), (0, 18), (0, 19), (0, 20)] .nil)); kernel_rfl; exact rfl; kernel_rfl; (repeat (first | with_reducible exact Blind.body | with_reducible apply Blind.seq | with_reducible apply Blind.block))) | ((with_reducible apply T_draw (id := 8) 8 (OT.seq [(0, 0), (0, 1), (0, 2), (0, 4), (0, 6), (1, 3), (1, 5), (0, 7), (3, 8)] .nil)); kernel_rfl; exact rfl; kernel_rfl; (repeat (first | with_reducible exact Blind.body | with_reducible apply Blind.seq | with_reducible apply Blind.block))) | ((with_reducible apply T_draw (id := 13) 8 (OT.seq [(0, 0), (0, 1), (0, 2), (0, 4), (0, 6), (1, 3), (1, 5), (0, 7), (3, 8)] .nil)); kernel_rfl; exact rfl; kernel_rfl; (repeat (first | with_reducible exact Blind.body | with_reducible apply Blind.seq | with_reducible apply Blind.block))) | ((with_reducible apply T_draw (id := 15) 14 (OT.seq [(0, 0), (0, 1), (0, 2), (0, 3), (0, 5), (0, 6), (0, 7), (1, 4), (1, 8), (0, 9), (0, 10), (0, 11), (0, 12), (0, 13), (3, 14)] .nil)); kernel_rfl; exact rfl; kernel_rfl; (repeat (first | with_reducible exact Blind.body | with_reducible apply Blind.seq | with_reducible apply Blind.block))) | ((with_reducible (first | apply TD_e2z | apply TD_e3z | apply TL_e | apply TD_e2 | apply TD_e3)); ((with_reducible apply ES_storeOwn1 (xx := (⟨A2, R.1.length, c2⟩ : Hd))); exact rfl; exact rfl; exact Zu; exact fun _ => rfl; exact List.getElem?_eq_getElem hjl; exact rfl; exact rfl); (first | exact rfl | exact ⟨rfl, rfl, rfl⟩); (rintro _ _ ⟨rfl, rfl⟩); (try refine ⟨SUB, ?_⟩)) | ((with_reducible (first | apply TD_e2z | apply TD_e3z | apply TL_e | apply TD_e2 | apply TD_e3)); ((with_reducible apply ES_append1 (enc := Stp.enc) (xx := (⟨(i : Int), R.2.1⟩ : Stp))); exact rfl; exact rfl; (repeat (first | with_reducible exact List.mem_cons_self | with_reducible apply List.mem_cons_of_mem)); exact rfl; exact fun _ => rfl; exact fun _ => rfl; (intro A' c'; first | ((repeat (first | with_reducible exact Upd.here _ _ _ | with_reducible apply Upd.there)); done) | (repeat (first | exact Upd.here _ _ _ | apply Upd.there))); (omega); decide; exact rfl); (first | exact rfl | exact ⟨rfl, rfl, rfl⟩); (rintro _ _ ⟨A', c', rfl, rfl⟩); (try refine ⟨SUB, ?_⟩)) | fail)
    obtain ⟨k', rfl⟩ : ∃ k', k = k' + 1 := ⟨k - 1, by have := unset_put hi hb0; omega⟩
    have hk' : unset cs.length (maskW (nextW ts cs w i)) = k' := by rw [hmask1]; have := unset_put hi hb0; omega
    have htry := try_yes (ts := ts) (cs := cs) (f := f) (k := k') hcan
    refine TL_mem (S' := finS (some ⟨bT, oT, none⟩) (some ⟨bB, oB, none⟩) tc d ts cs n f gf gm ⟨some ⟨gh, 0, none⟩, hc, hs.set cs[i].thing.toNat ⟨A2, R.1.length, c2⟩, A', c', D⟩ (nextW ts cs w i) ++ [entOwn intEnc 1 3 aR cR (statesW ts cs w)[cs[i].thing.toNat], entBlk gC 36 cs[i].enc.toArray]) (fun w' hw => ?_) ?_
    · have h1 := Mem.takeRow hjl hjs Zu hw
      have h2 := Mem.putRow (A := A2) (c := c2) (l := R.1) (j := cs[i].thing.toNat) (by repeat (first | exact Pick.here _ _ | apply Pick.there)) Zu h1
      rw [List.set_set, List.set_set, hh] at h2
      dsimp only [finS, List.cons_append, List.nil_append]
      dsimp only at h2
      rw [hmask1, hst', hnx, List.length_set]
      exact h2.sel Zl
    dsimp only [finS, List.cons_append, List.nil_append]
    have hih := fun (C : Ctx) (R' : List Ent) (w' : World) (hw : Mem C w' (finS (some ⟨bT, oT, none⟩) (some ⟨bB, oB, none⟩) tc d ts cs n f gf gm ⟨some ⟨gh, 0, none⟩, hc, hs.set cs[i].thing.toNat ⟨A2, R.1.length, c2⟩, A', c', D⟩ (nextW ts cs w i) ++ R')) (h1 : bT ∉ C.F) (h2 : bB ∉ C.F) (h3 : bT < C.w0.heap.size) (h4 : bB < C.w0.heap.size) (h5 : RdInt C.w0 (some ⟨bT, oT, none⟩) ts) (h6 : RdCl C.w0 (some ⟨bB, oB, none⟩) cs) =>
      hrun k' rfl (nextW ts cs w i) ⟨some ⟨gh, 0, none⟩, hc, hs.set cs[i].thing.toNat ⟨A2, R.1.length, c2⟩, A', c', D⟩ w' 0 hp' hD hk' (hw.rdAwayF h5 (fun b o e => by cases e; exact h1)) (hw.rdAwayF h6 (fun b o e => by cases e; exact h2))
        (fun b o e => by cases e; exact hw.newBlkF h1 h3) (fun _ b o e => by cases e; exact hw.newBlkF h2 h4) (hw.self 0)
    unfold runSays at hih
    generalize srchC ts cs f k' (nextW ts cs w i) = o at *
    repeat' (first | ((first | with_reducible (first | apply TL_q | apply TD_q0 | apply TD_q1 | apply TD_q2 | apply TD_q3) | ((with_reducible (first | apply TD_q0y | apply TD_q1y)); exact rfl; exact rfl; (with_reducible exact rfl))); (first | ((with_reducible apply QS_load); exact rfl; exact Lds.own1 (enc := hdEnc) Zm (fun _ => rfl) hjl hhead) | ((with_reducible apply QS_load); exact rfl; exact Lds.blk Zm (fin_after hi12)) | exact QS.auto | ((with_reducible apply QS_lookStr); exact rfl; exact rfl; (first | ((repeat (first | with_reducible exact List.mem_cons_self | with_reducible apply List.mem_cons_of_mem)); done) | (repeat (first | exact List.Mem.head _ | apply List.Mem.tail)))) | ((with_reducible apply QS_sliceHighZ (j := w.length)); exact rfl; exact rfl; omega; omega)); exact rfl) | refine GG ?_ | (refine GE ?_; (first | rintro _ _ ⟨rfl, rfl⟩ | rintro _ _ ⟨g, rfl, rfl⟩ | rintro _ _ ⟨A', c', rfl, rfl⟩); (try refine ⟨SUB, ?_⟩)) | (refine GO2 ?_ ?_ <;> (refine Zs ?_; intro h; try exact Zx)) | refine GOF ?_ ?_ | ((with_reducible apply T_draw (id := 2) 1000 (OT.seq [(0, 0), (0, 1), (0, 2), (0, 4), (0, 5), (1, 3), (0, 6), (0, 7), (0, 8), (0, 9), (0, 10), (0, 11), (0, 12), (0, 13), (0, 14), (0, 15), (0, 17), (0, 18), (0, 19), (1, 16), (1, 20), (0, 21), (0, 22), (0, 23)] .nil)); kernel_rfl; exact rfl; kernel_rfl; (repeat (first | with_reducible exact Blind.body | with_reducible apply Blind.seq | with_reducible apply Blind.block))) | ((with_reducible apply T_draw (id := 4) 1000 (OT.seq [(0, 0), (0, 1), (0, 2), (0, 4), (1, 3), (1, 5), (0, 6), (1, 7), (0, 8)] .nil)); kernel_rfl; exact rfl; kernel_rfl; (repeat (first | with_reducible exact Blind.body | with_reducible apply Blind.seq | with_reducible apply Blind.block))) | ((with_reducible apply T_draw (id := 5) 1000 (OT.seq [(0, 0), (0, 1), (0, 2), (0, 4), (0, 8), (0, 9), (0, 11), (1, 3), (1, 5), (0, 6), (1, 7), (1, 10), (1, 12), (2, 13), (0, 14), (0, 15), (0, 16), (0, 17), (0, 18), (0, 19), (0, 20)] .nil)); kernel_rfl; exact rfl; kernel_rfl; (repeat (first | with_reducible exact Blind.body | with_reducible apply Blind.seq | with_reducible apply Blind.block))) | ((with_reducible apply T_draw (id := 8) 8 (OT.seq [(0, 0), (0, 1), (0, 2), (0, 4), (0, 6), (1, 3), (1, 5), (0, 7), (3, 8)] .nil)); kernel_rfl; exact rfl; kernel_rfl; (repeat (first | with_reducible exact Blind.body | with_reducible apply Blind.seq | with_reducible apply Blind.block))) | ((with_reducible apply T_draw (id := 13) 8 (OT.seq [(0, 0), (0, 1), (0, 2), (0, 4), (0, 6), (1, 3), (1, 5), (0, 7), (3, 8)] .nil)); kernel_rfl; exact rfl; kernel_rfl; (repeat (first | with_reducible exact Blind.body | with_reducible apply Blind.seq | with_reducible apply Blind.block))) | ((with_reducible apply T_draw (id := 15) 14 (OT.seq [(0, 0), (0, 1), (0, 2), (0, 3), (0, 5), (0, 6), (0, 7), (1, 4), (1, 8), (0, 9), (0, 10), (0, 11), (0, 12), (0, 13), (3, 14)] .nil)); kernel_rfl; exact rfl; kernel_rfl; (repeat (first | with_reducible exact Blind.body | with_reducible apply Blind.seq | with_reducible apply Blind.block))) | fail)
    refine TL_e (ES_callX (f := 88) (X := {y : Fn // MemoOk ts cs f y.D}) (S1 := finS (some ⟨bT, oT, none⟩) (some ⟨bB, oB, none⟩) tc d ts cs n f gf gm ⟨some ⟨gh, 0, none⟩, hc, hs.set cs[i].thing.toNat ⟨A2, R.1.length, c2⟩, A', c', D⟩ (nextW ts cs w i))
      (fun _ => .bool o.isSome) (fun y => finS (some ⟨bT, oT, none⟩) (some ⟨bB, oB, none⟩) tc d ts cs n f gf gm y.1 (o.getD (nextW ts cs w i))) rfl Zp (fun x => by dsimp only [finS]; exact Za)
      (fun w' hw => hih _ _ w' hw hTF hBF hbT hbB hT hB) rfl) rfl ?_
    rintro _ _ ⟨⟨⟨hA3, hc3, hs3, oA3, oc3, D3⟩, hD3⟩, rfl, rfl⟩
    cases o with
    | some r =>
      dsimp only [Option.isSome, Option.getD]
      repeat' (first | ((first | with_reducible (first | apply TL_q | apply TD_q0 | apply TD_q1 | apply TD_q2 | apply TD_q3) | ((with_reducible (first | apply TD_q0y | apply TD_q1y)); exact rfl; exact rfl; (with_reducible exact rfl))); (first | ((with_reducible apply QS_load); exact rfl; exact Lds.own1 (enc := hdEnc) Zm (fun _ => rfl) hjl hhead) | ((with_reducible apply QS_load); exact rfl; exact Lds.blk Zm (fin_after hi12)) | exact QS.auto | ((with_reducible apply QS_lookStr); exact rfl; exact rfl; (first | ((repeat (first | with_reducible exact List.mem_cons_self | with_reducible apply List.mem_cons_of_mem)); done) | (repeat (first | exact List.Mem.head _ | apply List.Mem.tail)))) | ((with_reducible apply QS_sliceHighZ (j := w.length)); exact rfl; exact rfl; omega; omega)); exact rfl) | refine GG ?_ | (refine GE ?_; (first | rintro _ _ ⟨rfl, rfl⟩ | rintro _ _ ⟨g, rfl, rfl⟩ | rintro _ _ ⟨A', c', rfl, rfl⟩); (try refine ⟨SUB, ?_⟩)) | (refine GO2 ?_ ?_ <;> (refine Zs ?_; intro h; try exact Zx)) | refine GOF ?_ ?_ | ((with_reducible apply T_draw (id := 2) 1000 (OT.seq [(0, 0), (0, 1), (0, 2), (0, 4), (0, 5), (1, 3), (0, 6), (0, 7), (0, 8), (0, 9), (0, 10), (0, 11), (0, 12), (0, 13), (0, 14), (0, 15), (0, 17), (0, 18), (0, 19), (1, 16), (1, 20), (0, 21), (0, 22), (0, 23)] .nil)); kernel_rfl; exact rfl; kernel_rfl; (repeat (first | with_reducible exact Blind.body | with_reducible apply Blind.seq | with_reducible apply Blind.block))) | ((with_reducible apply T_draw (id := 4) 1000 (OT.seq [(0, 0), (0, 1), (0, 2), (0, 4), (1, 3), (1, 5), (0, 6), (1, 7), (0, 8)] .nil)); kernel_rfl; exact rfl; kernel_rfl; (repeat (first | with_reducible exact Blind.body | with_reducible apply Blind.seq | with_reducible apply Blind.block))) | ((with_reducible apply T_draw (id := 5) 1000 (OT.seq [(0, 0), (0, 1), (0, 2), (0, 4), (0, 8), (0, 9), (0, 11), (1, 3), (1, 5), (0, 6), (1, 7), (1, 10), (1, 12), (2, 13), (0, 14), (0, 15), (0, 16), (0, 17), (0, 18), (0, 19), (0, 20)] .nil)); kernel_rfl; exact rfl; kernel_rfl; (repeat (first | with_reducible exact Blind.body | with_reducible apply Blind.seq | with_reducible apply Blind.block))) | ((with_reducible apply T_draw (id := 8) 8 (OT.seq [(0, 0), (0, 1), (0, 2), (0, 4), (0, 6), (1, 3), (1, 5), (0, 7), (3, 8)] .nil)); kernel_rfl; exact rfl; kernel_rfl; (repeat (first | with_reducible exact Blind.body | with_reducible apply Blind.seq | with_reducible apply Blind.block))) | ((with_reducible apply T_draw (id := 13) 8 (OT.seq [(0, 0), (0, 1), (0, 2), (0, 4), (0, 6), (1, 3), (1, 5), (0, 7), (3, 8)] .nil)); kernel_rfl; exact rfl; kernel_rfl; (repeat (first | with_reducible exact Blind.body | with_reducible apply Blind.seq | with_reducible apply Blind.block))) | ((with_reducible apply T_draw (id := 15) 14 (OT.seq [(0, 0), (0, 1), (0, 2), (0, 3), (0, 5), (0, 6), (0, 7), (1, 4), (1, 8), (0, 9), (0, 10), (0, 11), (0, 12), (0, 13), (3, 14)] .nil)); kernel_rfl; exact rfl; kernel_rfl; (repeat (first | with_reducible exact Blind.body | with_reducible apply Blind.seq | with_reducible apply Blind.block))) | fail)
      (refine At_ret Tryz.results135 rfl (fun w' hw => ?_))
      exact ⟨⟨⟨hA3, hc3, hs3, oA3, oc3, D3⟩, hD3⟩, by rw [htry]; rfl, by rw [htry]; exact (hw.anyN 0).sub (by first | ((repeat (first | with_reducible exact List.nil_sublist _ | with_reducible exact List.Sublist.refl _ | with_reducible apply List.Sublist.cons_cons | with_reducible apply List.Sublist.cons)); done) | (repeat (first | exact List.nil_sublist _ | exact List.Sublist.refl _ | apply List.Sublist.cons_cons | apply List.Sublist.cons)))⟩
    | none =>
      dsimp only [Option.isSome, Option.getD]
      rw [hmask1, hst', hnx]
      refine TL_fact (p := hs3.length = ((statesW ts cs w).set cs[i].thing.toNat R.1).length) (fun w' hw => hw.innerLen (enc := intEnc) (M := 1) (e := 3) Zm) fun hl3 => ?_
      rw [List.length_set] at hl3
      have hj3 : cs[i].thing.toNat < hs3.length := by omega
      have hj3s : cs[i].thing.toNat < ((statesW ts cs w).set cs[i].thing.toNat R.1).length := by rw [List.length_set]; omega
      refine TL_own (ls := hs3) Zm (by omega) ?_
      rintro gh3 rfl
      refine TL_own (ls := w ++ [(⟨(i : Int), R.2.1⟩ : Stp)]) Zm (by simp) ?_
      rintro go rfl
      refine TL_ownLe (ls := w ++ [(⟨(i : Int), R.2.1⟩ : Stp)]) Zm fun hoc => ?_
      have hocw : w.length ≤ oc3 := by rw [List.length_append] at hoc; omega
      have hlw : (w ++ [(⟨(i : Int), R.2.1⟩ : Stp)]).length = w.length + 1 := by simp
      have hun := unmask hm16 (show i < 16 by omega) hb0
      repeat' (first | ((first | with_reducible (first | apply TL_q | apply TD_q0 | apply TD_q1 | apply TD_q2 | apply TD_q3) | ((with_reducible (first | apply TD_q0y | apply TD_q1y)); exact rfl; exact rfl; (with_reducible exact rfl))); (first | ((with_reducible apply QS_load); exact rfl; exact Lds.own1 (enc := hdEnc) Zm (fun _ => rfl) hjl hhead) | ((with_reducible apply QS_load); exact rfl; exact Lds.blk Zm (fin_after hi12)) | exact QS.auto | ((with_reducible apply QS_lookStr); exact rfl; exact rfl; (first | ((repeat (first | with_reducible exact List.mem_cons_self | with_reducible apply List.mem_cons_of_mem)); done) | (repeat (first | exact List.Mem.head _ | apply List.Mem.tail)))) | ((with_reducible apply QS_sliceHighZ (j := w.length)); exact rfl; exact rfl; omega; omega)); exact rfl) | refine GG ?_ | (refine GE ?_; (first | rintro _ _ ⟨rfl, rfl⟩ | rintro _ _ ⟨g, rfl, rfl⟩ | rintro _ _ ⟨A', c', rfl, rfl⟩); (try refine ⟨SUB, ?_⟩)) | (refine GO2 ?_ ?_ <;> (refine Zs ?_; intro h; try exact Zx)) | refine GOF ?_ ?_ | ((with_reducible apply T_draw (id := 2) 1000 (OT.seq [(0, 0), (0, 1), (0, 2), (0, 4), (0, 5), (1, 3), (0, 6), (0, 7), (0, 8), (0, 9), (0, 10), (0, 11), (0, 12), (0, 13), (0, 14), (0, 15), (0, 17), (0, 18), (0, 19), (1, 16), (1, 20), (0, 21), (0, 22), (0, 23)] .nil)); kernel_rfl; exact rfl; kernel_rfl; (repeat (first | with_reducible exact Blind.body | with_reducible apply Blind.seq | with_reducible apply Blind.block))) | ((with_reducible apply T_draw (id := 4) 1000 (OT.seq [(0, 0), (0, 1), (0, 2), (0, 4), (1, 3), (1, 5), (0, 6), (1, 7), (0, 8)] .nil)); kernel_rfl; exact rfl; kernel_rfl; (repeat (first | with_reducible exact Blind.body | with_reducible apply Blind.seq | with_reducible apply Blind.block))) | ((with_reducible apply T_draw (id := 5) 1000 (OT.seq [(0, 0), (0, 1), (0, 2), (0, 4), (0, 8), (0, 9), (0, 11), (1, 3), (1, 5), (0, 6), (1, 7), (1, 10), (1, 12), (2, 13), (0, 14), (0, 15), (0, 16), (0, 17), (0, 18), (0, 19), (0, 20)] .nil)); kernel_rfl; exact rfl; kernel_rfl; (repeat (first | with_reducible exact Blind.body | with_reducible apply Blind.seq | with_reducible apply Blind.block))) | ((with_reducible apply T_draw (id := 8) 8 (OT.seq [(0, 0), (0, 1), (0, 2), (0, 4), (0, 6), (1, 3), (1, 5), (0, 7), (3, 8)] .nil)); kernel_rfl; exact rfl; kernel_rfl; (repeat (first | with_reducible exact Blind.body | with_reducible apply Blind.seq | with_reducible apply Blind.block))) | ((with_reducible apply T_draw (id := 13) 8 (OT.seq [(0, 0), (0, 1), (0, 2), (0, 4), (0, 6), (1, 3), (1, 5), (0, 7), (3, 8)] .nil)); kernel_rfl; exact rfl; kernel_rfl; (repeat (first | with_reducible exact Blind.body | with_reducible apply Blind.seq | with_reducible apply Blind.block))) | ((with_reducible apply T_draw (id := 15) 14 (OT.seq [(0, 0), (0, 1), (0, 2), (0, 3), (0, 5), (0, 6), (0, 7), (1, 4), (1, 8), (0, 9), (0, 10), (0, 11), (0, 12), (0, 13), (3, 14)] .nil)); kernel_rfl; exact rfl; kernel_rfl; (repeat (first | with_reducible exact Blind.body | with_reducible apply Blind.seq | with_reducible apply Blind.block))) | ((with_reducible (first | apply TD_e2z | apply TD_e3z | apply TL_e | apply TD_e2 | apply TD_e3)); ((with_reducible apply ES_storeOwn1 (xx := (⟨aR, (statesW ts cs w)[cs[i].thing.toNat].length, cR⟩ : Hd))); exact rfl; exact rfl; exact Zu; exact fun _ => rfl; exact List.getElem?_eq_getElem hj3; exact rfl; exact rfl); (first | exact rfl | exact ⟨rfl, rfl, rfl⟩); (rintro _ _ ⟨rfl, rfl⟩); (try refine ⟨SUB, ?_⟩)) | fail)
      (refine At_ret Tryz.results135 rfl (fun w' hw => ?_))
      rw [hun] at hw
      refine ⟨⟨⟨some ⟨gh3, 0, none⟩, hc3, hs3.set cs[i].thing.toNat ⟨aR, (statesW ts cs w)[cs[i].thing.toNat].length, cR⟩, some ⟨go, 0, none⟩, oc3, D3⟩, hD3⟩, by rw [htry]; rfl, ?_⟩
      rw [htry]
      have h1 := Mem.ownLast (enc := Stp.enc) (M := 2) (ls := w) (S' := [entBlk gf 152 (finC (.slice (some ⟨bT, oT, none⟩) ts.length tc) (.slice (some ⟨bB, oB, none⟩) cs.length d) n f (.slice (some ⟨gh3, 0, none⟩) hs3.length hc3) (maskW w) (.slice (some ⟨go, 0, none⟩) w.length oc3) gm),
        entOwn hdEnc 1 24 (some ⟨gh3, 0, none⟩) hc3 (hs3.set cs[i].thing.toNat ⟨aR, (statesW ts cs w)[cs[i].thing.toNat].length, cR⟩), entInner intEnc 1 3 hs3 ((statesW ts cs w).set cs[i].thing.toNat R.1), entOwn Stp.enc 2 49 (some ⟨go, 0, none⟩) oc3 w, entSet gm D3,
        entOwn intEnc 1 3 aR cR (statesW ts cs w)[cs[i].thing.toNat], entBlk gC 36 cs[i].enc.toArray]) Zu (fun _ => rfl) hw
      have h2 := Mem.takeRow hj3 hj3s Zu h1
      have h3 := Mem.putRow (A := aR) (c := cR) (l := (statesW ts cs w)[cs[i].thing.toNat]) (j := cs[i].thing.toNat) (by repeat (first | exact Pick.here _ _ | apply Pick.there)) Zu h2
      rw [List.set_set, List.set_set, List.set_set, List.set_getElem_self] at h3
      dsimp only [finS, Option.getD]
      rw [List.length_set]
      exact (h3.anyN 0).sel Zl
end
end Go.Proofs.YtjdckepbihcgfaaGreatDoor

namespace Go.Proofs.YtjdckepbihcgfaaGreatDoor
open Go.RowKit

section
variable {C : Ctx} {S : List Ent} {W : World}
theorem complete_S {tv hv ov : Value} {n : Int} {f : Nat → Nat} {B : Option Addr} {d gf gm m : Nat} {cs : List Cl} (hw : Mem C W S) (hm : entBlk gf 152 (finC tv (.slice B cs.length d) n f hv m ov gm) ∈ S) (hB : RdCl W B cs) (h16 : m < 65536) (hl : cs.length ≤ 16) :
    Calls Tryz.prog 133 #[.pointer (some ⟨gf, 0, none⟩)] W fun e w' => e = .returned (.bool (compM cs m)) ∧ Below W.heap.size W w' :=
  complete_any B d cs gf m W (hw.blkAt hm).1 ((hw.blkAt hm).2 1) ((hw.blkAt hm).2 16) hB h16 hl
theorem key_S {tv cv ov : Value} {n : Int} {f : Nat → Nat} {H : Option Addr} {hc gf gm m : Nat} {hs : List Hd} {sts : List (List Int)} (hw : Mem C W S) (hm : entBlk gf 152 (finC tv cv n f (.slice H hs.length hc) m ov gm) ∈ S)
    (h1 : entOwn hdEnc 1 24 H hc hs ∈ S) (h2 : entInner intEnc 1 3 hs sts ∈ S) (h16 : m < 65536) (hl4 : sts.length ≤ 4) (hval : ∀ s ∈ sts, s.length ≤ 50 ∧ ∀ x ∈ s, 0 ≤ x ∧ x ≤ 1000) :
    Calls Tryz.prog 134 #[.pointer (some ⟨gf, 0, none⟩)] W fun e w' => e = .returned (.string (bytesOf (keyL m sts))) ∧ Below W.heap.size W w' :=
  key_any H hc hs sts gf m W (hw.blkAt hm).1 ((hw.blkAt hm).2 15) ((hw.blkAt hm).2 16) h16 (hw.ownRd h1 (fun _ => rfl)) (hw.innerLen h2) (fun _ a b => hw.innerRd h2 (fun _ => rfl) a b) hl4 hval
end
section
variable (T B : Option Addr) (tc d : Nat) (ts : List Int) (cs : List Cl) (n : Int) (f : Nat → Nat) (gf gm : Nat)
variable (hts : typesOk ts = true) (hcs : CallsOk ts cs) (h9 : cs.length ≤ 9) (hf16 : ∀ i, i < 12 → f i < 65536)
include hts hcs h9 hf16
set_option maxRecDepth 100000 in
set_option maxHeartbeats 4000000 in
theorem run_step (k : Nat) (hrun : ∀ k', k = k' + 1 → RunOk T B tc d ts cs n f gf gm k') : RunOk T B tc d ts cs n f gf gm k := by
  intro w x W n0 hp hD hk hT hB haT haB hm
  unfold runSays
  have hplace := fun i y => place_any T B tc d ts cs n f gf gm hcs h9 hf16 k hrun w i y
  obtain ⟨hA, hc, hs, oA, oc, D⟩ := x
  obtain ⟨F, hF⟩ : ∃ F, F = blks (finS T B tc d ts cs n f gf gm ⟨hA, hc, hs, oA, oc, D⟩ w) := ⟨_, rfl⟩
  rw [← hF] at haT haB hm ⊢
  have ht4 : 1 ≤ ts.length ∧ ts.length ≤ 4 := by
    unfold typesOk at hts
    rw [Bool.and_eq_true, decide_eq_true_eq] at hts
    exact hts.1
  have hsl := hp.sts.1
  have hml : maskW w < 2 ^ 9 := Nat.lt_of_lt_of_le (mask_lt hp) (Nat.pow_le_pow_right (by decide) h9)
  have hm16 : maskW w < 65536 := Nat.lt_trans hml (by decide)
  have hrows := stsOk_bounds hp.sts
  have hbT : ∀ b o, T = some ⟨b, o, none⟩ → b < W.heap.size := fun b o e => by
    obtain ⟨b', o', e', hb'⟩ := RdE.open hT (by omega)
    rw [e] at e'; cases e'; exact hb'
  have hbB : 0 < cs.length → ∀ b o, B = some ⟨b, o, none⟩ → b < W.heap.size := fun h0 b o e => by
    obtain ⟨b', o', e', hb'⟩ := RdE.open hB h0
    rw [e] at e'; cases e'; exact hb'
  have hrT : ∀ (C : Ctx) (S : List Ent) (W' : World), C.F = F → C.w0 = W → Mem C W' S → RdInt W' T ts := fun C S W' e1 e2 hw => by
    subst e2
    exact hw.rdAwayF hT (fun b o e => by rw [e1]; exact haT b o e)
  have hrB : ∀ (C : Ctx) (S : List Ent) (W' : World), C.F = F → C.w0 = W → Mem C W' S → RdCl W' B cs := fun C S W' e1 e2 hw => by
    subst e2
    rcases Nat.eq_zero_or_pos cs.length with h0 | h0
    · rw [List.length_eq_zero_iff.1 h0]; exact RdE.nil _
    · exact hw.rdAwayF hB (fun b o e => by rw [e1]; exact haB h0 b o e)
  have hawT : ∀ (C : Ctx) (S R : List Ent) (W' : World), C.F = F → C.w0 = W → Mem C W' (S ++ R) → Away T (blks S) := fun C S R W' e1 e2 hw b o e => by
    subst e2
    exact hw.newBlkF (by rw [e1]; exact haT b o e) (hbT b o e)
  have hawB : ∀ (C : Ctx) (S R : List Ent) (W' : World), C.F = F → C.w0 = W → Mem C W' (S ++ R) → 0 < cs.length → Away B (blks S) := fun C S R W' e1 e2 hw h0 b o e => by
    subst e2
    exact hw.newBlkF (by rw [e1]; exact haB h0 b o e) (hbB h0 b o e)
  have hkey : keyW ts cs w = bytesOf (keyL (maskW w) (statesW ts cs w)) := rfl
  have hmemo := hD w hp
  rw [hk, hkey] at hmemo
  have hadd := fun (y : Fn) (hy : MemoOk ts cs f y.D) (hn : srchC ts cs f k w = none) => memo_add (by omega) hy hp (by rw [hk]; exact hn)
  rw [hkey] at hadd
  have hcompW : compW cs w = compM cs (maskW w) := rfl
  unfold finS at hm
  dsimp only at hm
  refine calls_T F Tryz.func88 rfl Tryz.ntmps88 (by simp) (hm.anyN _) ?_
  have hc1 := fun (C : Ctx) (S : List Ent) (W' : World) (hw : Mem C W' S) (hm : entBlk gf 152 (finC (.slice T ts.length tc) (.slice B cs.length d) n f (.slice hA hs.length hc) (maskW w) (.slice oA w.length oc) gm) ∈ S) (hB : RdCl W' B cs) => complete_S hw hm hB hm16 (by omega)
  cases hcm : compM cs (maskW w) with
  | true =>
    rw [hcm] at hc1
    repeat' (first | ((first | with_reducible (first | apply TL_q | apply TD_q0 | apply TD_q1 | apply TD_q2 | apply TD_q3) | ((with_reducible (first | apply TD_q0y | apply TD_q1y)); exact rfl; exact rfl; (with_reducible exact rfl))); (first | exact QS.auto | ((with_reducible apply QS_lookStr); exact rfl; exact rfl; (first | ((repeat (first | with_reducible exact List.mem_cons_self | with_reducible apply List.mem_cons_of_mem)); done) | (repeat (first | exact List.Mem.head _ | apply List.Mem.tail))))); exact rfl) | refine GO ?_ | (refine GOE ?_; (first | rintro _ _ ⟨rfl, rfl⟩ | rintro _ _ ⟨g, rfl, rfl⟩ | rintro _ _ ⟨A', c', rfl, rfl⟩)) | (refine GO2 ?_ ?_ <;> (refine Zs ?_; intro h; try exact Zx)) | ((with_reducible (first | apply TD_e2z | apply TD_e3z | apply TL_e | apply TD_e2 | apply TD_e3)); ((with_reducible apply ES_callV (f := 133)); exact rfl; (intro w hw; exact hc1 _ _ w hw Zm (hrB _ _ _ rfl rfl hw)); exact rfl); (first | exact rfl | exact ⟨rfl, rfl, rfl⟩); (rintro _ _ ⟨rfl, rfl⟩); (try refine ⟨SUB, ?_⟩)) | fail)
    (refine At_ret Tryz.results88 rfl (fun w' hw => ?_))
    have hsr : srchC ts cs f k w = some w := srch_comp _ _ _ _ (by rw [hcompW]; exact hcm)
    rw [hsr]
    exact ⟨⟨⟨hA, hc, hs, oA, oc, D⟩, hD⟩, rfl, (hw.anyN 0).sub (by first | ((repeat (first | with_reducible exact List.nil_sublist _ | with_reducible exact List.Sublist.refl _ | with_reducible apply List.Sublist.cons_cons | with_reducible apply List.Sublist.cons)); done) | (repeat (first | exact List.nil_sublist _ | exact List.Sublist.refl _ | apply List.Sublist.cons_cons | apply List.Sublist.cons)))⟩
  | false =>
    rw [hcm] at hc1
    have hnc : ¬ compW cs w = true := by rw [hcompW, hcm]; simp
    have hk1 := fun (C : Ctx) (S : List Ent) (W' : World) (hw : Mem C W' S) (hm : entBlk gf 152 (finC (.slice T ts.length tc) (.slice B cs.length d) n f (.slice hA hs.length hc) (maskW w) (.slice oA w.length oc) gm) ∈ S) h1 h2 => key_S (sts := statesW ts cs w) hw hm h1 h2 hm16 (by omega) hrows
    generalize bytesOf (keyL (maskW w) (statesW ts cs w)) = key at *
    repeat' (first | ((first | with_reducible (first | apply TL_q | apply TD_q0 | apply TD_q1 | apply TD_q2 | apply TD_q3) | ((with_reducible (first | apply TD_q0y | apply TD_q1y)); exact rfl; exact rfl; (with_reducible exact rfl))); (first | exact QS.auto | ((with_reducible apply QS_lookStr); exact rfl; exact rfl; (first | ((repeat (first | with_reducible exact List.mem_cons_self | with_reducible apply List.mem_cons_of_mem)); done) | (repeat (first | exact List.Mem.head _ | apply List.Mem.tail))))); exact rfl) | refine GO ?_ | (refine GOE ?_; (first | rintro _ _ ⟨rfl, rfl⟩ | rintro _ _ ⟨g, rfl, rfl⟩ | rintro _ _ ⟨A', c', rfl, rfl⟩)) | (refine GO2 ?_ ?_ <;> (refine Zs ?_; intro h; try exact Zx)) | ((with_reducible (first | apply TD_e2z | apply TD_e3z | apply TL_e | apply TD_e2 | apply TD_e3)); ((with_reducible apply ES_callV (f := 133)); exact rfl; (intro w hw; exact hc1 _ _ w hw Zm (hrB _ _ _ rfl rfl hw)); exact rfl); (first | exact rfl | exact ⟨rfl, rfl, rfl⟩); (rintro _ _ ⟨rfl, rfl⟩); (try refine ⟨SUB, ?_⟩)) | ((with_reducible (first | apply TD_e2z | apply TD_e3z | apply TL_e | apply TD_e2 | apply TD_e3)); ((with_reducible apply ES_callV (f := 134)); exact rfl; (intro w hw; exact hk1 _ _ w hw Zm Zm Zm); exact rfl); (first | exact rfl | exact ⟨rfl, rfl, rfl⟩); (rintro _ _ ⟨rfl, rfl⟩); (try refine ⟨SUB, ?_⟩)) | fail)
    · (refine At_ret Tryz.results88 rfl (fun w' hw => ?_))
      have hsr : srchC ts cs f k w = none := hmemo (hasB_iff.1 (by assumption))
      rw [hsr]
      exact ⟨⟨⟨hA, hc, hs, oA, oc, D⟩, hD⟩, rfl, (hw.anyN 0).sub (by first | ((repeat (first | with_reducible exact List.nil_sublist _ | with_reducible exact List.Sublist.refl _ | with_reducible apply List.Sublist.cons_cons | with_reducible apply List.Sublist.cons)); done) | (repeat (first | exact List.nil_sublist _ | exact List.Sublist.refl _ | apply List.Sublist.cons_cons | apply List.Sublist.cons)))⟩
    · refine T_loop (X := Nat × {y : Fn // MemoOk ts cs f y.D}) (fun x => [(20, .int .i64 (x.1 : Nat)), (19, .int .i64 cs.length), (3, .string key), (0, .pointer (some ⟨gf, 0, none⟩))])
        (fun x => finS T B tc d ts cs n f gf gm x.2.1 w) (fun x => x.1 ≤ cs.length ∧ ∀ j, j < x.1 → tryC ts cs f k w j = none) (fun x => cs.length - x.1) (0, ⟨⟨hA, hc, hs, oA, oc, D⟩, hD⟩) ⟨by omega, fun j hj => by (try dsimp only at hj); omega⟩ Ze (by exact SUBS) ?_
      rintro ⟨i, y, hy⟩ ⟨hi, hno⟩
      dsimp only at hi hno ⊢
      by_cases hil : i < cs.length
      · have hpl := fun (C : Ctx) (R' : List Ent) (w' : World) (hw : Mem C w' (finS T B tc d ts cs n f gf gm y w ++ R')) (e1 : C.F = F) (e2 : C.w0 = W) =>
          hplace i y w' 0 hil hp hy hk (hrT C _ w' e1 e2 hw) (hrB C _ w' e1 e2 hw) (hawT C _ R' w' e1 e2 hw) (hawB C _ R' w' e1 e2 hw (by omega)) (hw.self 0)
        unfold placeSays at hpl
        obtain ⟨o, ho⟩ : ∃ o, tryC ts cs f k w i = o := ⟨_, rfl⟩
        rw [ho] at hpl
        repeat' (first | ((first | with_reducible (first | apply TL_q | apply TD_q0 | apply TD_q1 | apply TD_q2 | apply TD_q3) | ((with_reducible (first | apply TD_q0y | apply TD_q1y)); exact rfl; exact rfl; (with_reducible exact rfl))); (first | exact QS.auto | ((with_reducible apply QS_lookStr); exact rfl; exact rfl; (first | ((repeat (first | with_reducible exact List.mem_cons_self | with_reducible apply List.mem_cons_of_mem)); done) | (repeat (first | exact List.Mem.head _ | apply List.Mem.tail))))); exact rfl) | refine GO ?_ | (refine GOE ?_; (first | rintro _ _ ⟨rfl, rfl⟩ | rintro _ _ ⟨g, rfl, rfl⟩ | rintro _ _ ⟨A', c', rfl, rfl⟩)) | (refine GO2 ?_ ?_ <;> (refine Zs ?_; intro h; try exact Zx)) | fail)
        refine TL_e (ES_callX (f := 135) (X := {y : Fn // MemoOk ts cs f y.D}) (S1 := finS T B tc d ts cs n f gf gm y w)
          (fun _ => .bool o.isSome) (fun z => finS T B tc d ts cs n f gf gm z.1 (o.getD w)) rfl Zp (fun x => by dsimp only [finS]; exact Za)
          (fun w' hw => hpl _ _ w' hw rfl rfl) rfl) rfl ?_
        rintro _ _ ⟨⟨z, hz⟩, rfl, rfl⟩
        cases o with
        | some r =>
          dsimp only [Option.isSome, Option.getD]
          repeat' (first | ((first | with_reducible (first | apply TL_q | apply TD_q0 | apply TD_q1 | apply TD_q2 | apply TD_q3) | ((with_reducible (first | apply TD_q0y | apply TD_q1y)); exact rfl; exact rfl; (with_reducible exact rfl))); (first | exact QS.auto | ((with_reducible apply QS_lookStr); exact rfl; exact rfl; (first | ((repeat (first | with_reducible exact List.mem_cons_self | with_reducible apply List.mem_cons_of_mem)); done) | (repeat (first | exact List.Mem.head _ | apply List.Mem.tail))))); exact rfl) | refine GO ?_ | (refine GOE ?_; (first | rintro _ _ ⟨rfl, rfl⟩ | rintro _ _ ⟨g, rfl, rfl⟩ | rintro _ _ ⟨A', c', rfl, rfl⟩)) | (refine GO2 ?_ ?_ <;> (refine Zs ?_; intro h; try exact Zx)) | fail)
          (refine At_ret Tryz.results88 rfl (fun w' hw => ?_))
          have hsr : srchC ts cs f k w = some r := srch_some _ _ _ _ hnc hil hno ho
          rw [hsr]
          exact ⟨⟨z, hz⟩, rfl, (hw.anyN 0).sub (by first | ((repeat (first | with_reducible exact List.nil_sublist _ | with_reducible exact List.Sublist.refl _ | with_reducible apply List.Sublist.cons_cons | with_reducible apply List.Sublist.cons)); done) | (repeat (first | exact List.nil_sublist _ | exact List.Sublist.refl _ | apply List.Sublist.cons_cons | apply List.Sublist.cons)))⟩
        | none =>
          dsimp only [Option.isSome, Option.getD]
          repeat' (first | ((first | with_reducible (first | apply TL_q | apply TD_q0 | apply TD_q1 | apply TD_q2 | apply TD_q3) | ((with_reducible (first | apply TD_q0y | apply TD_q1y)); exact rfl; exact rfl; (with_reducible exact rfl))); (first | exact QS.auto | ((with_reducible apply QS_lookStr); exact rfl; exact rfl; (first | ((repeat (first | with_reducible exact List.mem_cons_self | with_reducible apply List.mem_cons_of_mem)); done) | (repeat (first | exact List.Mem.head _ | apply List.Mem.tail))))); exact rfl) | refine GO ?_ | (refine GOE ?_; (first | rintro _ _ ⟨rfl, rfl⟩ | rintro _ _ ⟨g, rfl, rfl⟩ | rintro _ _ ⟨A', c', rfl, rfl⟩)) | (refine GO2 ?_ ?_ <;> (refine Zs ?_; intro h; try exact Zx)) | fail)
          apply At_rounds (i + 1, ⟨z, hz⟩)
          case hE => exact Ze
          case hS => exact SUBS
          case hμ => (try dsimp only); omega
          case hp =>
            refine ⟨hil, fun j hj => ?_⟩
            (try dsimp only at hj)
            by_cases e : j = i
            · subst e; exact ho
            · exact hno j (by omega)
      · obtain rfl : i = cs.length := by omega
        have hsr : srchC ts cs f k w = none := srch_none _ _ _ _ hnc hno
        have hadd' := hadd y hy hsr
        repeat' (first | ((first | with_reducible (first | apply TL_q | apply TD_q0 | apply TD_q1 | apply TD_q2 | apply TD_q3) | ((with_reducible (first | apply TD_q0y | apply TD_q1y)); exact rfl; exact rfl; (with_reducible exact rfl))); (first | exact QS.auto | ((with_reducible apply QS_lookStr); exact rfl; exact rfl; (first | ((repeat (first | with_reducible exact List.mem_cons_self | with_reducible apply List.mem_cons_of_mem)); done) | (repeat (first | exact List.Mem.head _ | apply List.Mem.tail))))); exact rfl) | refine GO ?_ | (refine GOE ?_; (first | rintro _ _ ⟨rfl, rfl⟩ | rintro _ _ ⟨g, rfl, rfl⟩ | rintro _ _ ⟨A', c', rfl, rfl⟩)) | (refine GO2 ?_ ?_ <;> (refine Zs ?_; intro h; try exact Zx)) | ((with_reducible (first | apply TD_e2z | apply TD_e3z | apply TL_e | apply TD_e2 | apply TD_e3)); ((with_reducible apply ES_updateStr); exact rfl; exact rfl; exact Zu; exact rfl); (first | exact rfl | exact ⟨rfl, rfl, rfl⟩); (rintro _ _ ⟨rfl, rfl⟩); (try refine ⟨SUB, ?_⟩)) | fail)
        (refine At_ret Tryz.results88 rfl (fun w' hw => ?_))
        rw [hsr]
        exact ⟨⟨⟨y.hA, y.hc, y.hs, y.oA, y.oc, addB y.D key⟩, hadd'⟩, rfl, (hw.anyN 0).sub (by first | ((repeat (first | with_reducible exact List.nil_sublist _ | with_reducible exact List.Sublist.refl _ | with_reducible apply List.Sublist.cons_cons | with_reducible apply List.Sublist.cons)); done) | (repeat (first | exact List.nil_sublist _ | exact List.Sublist.refl _ | apply List.Sublist.cons_cons | apply List.Sublist.cons)))⟩
omit hts hcs h9 hf16 in
theorem run_any' (hts : typesOk ts = true) (hcs : CallsOk ts cs) (h9 : cs.length ≤ 9) (hf16 : ∀ i, i < 12 → f i < 65536) : ∀ k, RunOk T B tc d ts cs n f gf gm k
  | 0 => run_step T B tc d ts cs n f gf gm hts hcs h9 hf16 0 (fun k' h => by omega)
  | k + 1 => run_step T B tc d ts cs n f gf gm hts hcs h9 hf16 (k + 1) (fun k' h => by
    obtain rfl : k = k' := by omega
    exact run_any' hts hcs h9 hf16 k)
end
end Go.Proofs.YtjdckepbihcgfaaGreatDoor
