/- Lemmas for the walks (OlE, OlF, OlG, Tn2). No condition. -/
import Derived.Test.YtjdckepbihcgfaaGreatDoorG20
import Derived.Test.YtjdckepbihcgfaaGreatDoorG06
import Derived.Test.YtjdckepbihcgfaaGreatDoorG19
import Derived.Test.YtjdckepbihcgfaaGreatDoorG04
import Derived.Test.YtjdckepbihcgfaaGreatDoorG17
import Derived.Test.YtjdckepbihcgfaaGreatDoorG01
import Derived.Test.YtjdckepbihcgfaaGreatDoorG18
set_option linter.unusedSimpArgs false
set_option linter.unusedVariables false
set_option linter.unusedSectionVars false
set_option linter.unnecessarySimpa false
namespace Go.Proofs.YtjdckepbihcgfaaGreatDoor
open Go.RowKit

def u16Enc (k : Nat) : List Value := [.int .u16 k]
section
variable (n : Nat) (c : Nat → Nat) (m : Nat) (vo vs vs' : Value)
theorem pc_list : (pcells n c m vo vs).toList = (relCells n c).toList ++ [.int .i64 m, vo, vs] := by rw [pcells, List.toList_toArray]
theorem pc_15 : nthV (pcells n c m vo vs).toList 15 = some vs := by
  rw [← nthV_eq, pc_list, List.getElem?_append_right (by simp [relCells_size])]; simp [relCells_size]
theorem pc_14 : nthV (pcells n c m vo vs).toList 14 = some vo := by
  rw [← nthV_eq, pc_list, List.getElem?_append_right (by simp [relCells_size])]; simp [relCells_size]
theorem pc_13 : nthV (pcells n c m vo vs).toList 13 = some (.int .i64 m) := by
  rw [← nthV_eq, pc_list, List.getElem?_append_right (by simp [relCells_size])]; simp [relCells_size]
theorem pc_0 : nthV (pcells n c m vo vs).toList 0 = some (.int .i64 n) := pc_all _ _ _ _ _ (by rw [Array.getElem?_toList, relCells_n])
theorem pc_set15 : (pcells n c m vo vs).setIfInBounds 15 vs' = pcells n c m vo vs' := by
  apply Array.toList_inj.1
  rw [Array.toList_setIfInBounds, pc_list, pc_list, List.set_append_right _ _ (by simp [relCells_size])]
  simp [relCells_size]
theorem pc_lt15 : 15 < (pcells n c m vo vs).size := by
  rw [← Array.length_toList, pc_list]; simp [relCells_size]
end
section
variable {C : Ctx} {S S' : List Ent} {w : World} {α : Type} {enc : α → List Value} {M et c g : Nat} {ls : List α} {x : α}
theorem Mem.ownTake (hu : Upd S (entOwn enc M et (some ⟨g, 0, Option.none⟩) c (ls ++ [x])) (entOwn enc M et (some ⟨g, 0, Option.none⟩) c ls) S') (hM : ∀ x, (enc x).length = M) (hw : Mem C w S) : Mem C w S' := by
  have ho := hw.holds _ hu.mem
  have h : Own enc M et w 0 (.slice (some ⟨g, 0, Option.none⟩) (ls ++ [x]).length c) (ls ++ [x]) := ho.1
  refine hw.upd hu (Keeps.refl [] w) (by simp) (fun k hk => ?_) ?_
  · have : some g = some k := hk
    cases this
    exact ⟨(ho.2 g rfl).1, .inl rfl⟩
  · show Own enc M et w 0 (.slice (some ⟨g, 0, Option.none⟩) ls.length c) ls
    rcases h.2 with ⟨hv, _⟩ | ⟨g', cap, cur, hv, hbb, hg, hnc, hmx, hsz, htk⟩
    · cases hv
    · simp only [Value.slice.injEq] at hv
      obtain ⟨hv1, -, rfl⟩ := hv
      obtain rfl : g = g' := by simpa using hv1
      refine ⟨flat_len hM ls, .inr ⟨g, c, cur, rfl, hbb, hg, ?_, hmx, hsz, ?_⟩⟩
      · simp at hnc; omega
      · have h1 := congrArg (List.take (ls.length * M)) htk
        rw [List.take_take, List.flatMap_append, List.take_left' (flat_len hM ls), List.length_append] at h1
        rw [← h1]
        congr 1
        simp [Nat.add_mul]
theorem Mem.ownForm {A : Option Addr} {et : Nat} (hw : Mem C w S) (hm : entOwn enc M et A c ls ∈ S) (hl : 0 < ls.length) : ∃ g, A = some ⟨g, 0, Option.none⟩ := by
  have h : Own enc M et w 0 (.slice A ls.length c) ls := (hw.holds _ hm).1
  rcases h.2 with ⟨hv, h0⟩ | ⟨g, cap, cur, hv, _⟩
  · omega
  · simp only [Value.slice.injEq] at hv
    exact ⟨g, hv.1⟩
end
section
variable {P : Program} {C : Ctx} {E : Slots} {S : List Ent} {t e m g p n c : Nat} {x y : Operand} {ty : TypeId}
theorem QS_sliceHighJ [hs : SliceOf P t e m] {k : IntKind} {j : Nat} {z : Int} (hx : evo E x = some (.slice (some ⟨g, p, none⟩) n c)) (hy : evo E y = some (.int k z)) (hz : z = (j : Nat)) (hj : j ≤ c) :
    QS P C E S (.slice t x none (some y) none) ty (.slice (some ⟨g, p, none⟩) j c) := QS_sliceHigh hx (by rw [hy, hz]) hj
end
theorem fits_ok {n : Nat} {c : Nat → Nat} {l : List Nat} {k : Nat} (hn : n ≤ 12) (hf : ∀ i, i < 12 → c i < 65536) (hl : l.length < n) : fitsP c n l.length (maskC l k) = okCl c l k := by
  have hm : maskC l k < 65536 := Nat.lt_trans (maskC_lt l k) (by rw [show 65536 = 2 ^ 16 by rfl]; exact Nat.pow_lt_pow_right (by decide) (by omega))
  have hbf : befF c l.length n < 65536 := bitsTo_lt_16 _ (by omega)
  have hor : c l.length ||| befF c l.length n < 65536 := Nat.or_lt_two_pow (n := 16) (hf _ (by omega)) hbf
  rw [Bool.eq_iff_iff]
  unfold fitsP okCl
  rw [decide_eq_true_eq, andNot_zero _ _ hm hor, List.all_eq_true]
  constructor
  · intro h j hj
    rw [List.mem_range] at hj
    by_cases e : l.getD j 0 = k
    · have h1 := h j (by rw [maskC_bit]; simp only [hj, decide_true, Bool.true_and, decide_eq_true_eq]; exact e)
      rw [Nat.testBit_or, befF, bitsTo_testBit, Bool.or_eq_true, Bool.and_eq_true] at h1
      simp only [Bool.or_eq_true]
      rcases h1 with h1 | h1
      · exact .inl (.inr h1)
      · exact .inr h1.2
    · rw [decide_eq_false e]; simp
  · intro h j hj
    rw [maskC_bit, Bool.and_eq_true, decide_eq_true_eq, decide_eq_true_eq] at hj
    have h1 := h j (by rw [List.mem_range]; exact hj.1)
    simp only [hj.2, decide_true, Bool.not_true, Bool.false_or, Bool.or_eq_true] at h1
    rw [Nat.testBit_or, befF, bitsTo_testBit, Bool.or_eq_true, Bool.and_eq_true, decide_eq_true_eq]
    rcases h1 with h1 | h1
    · exact .inl h1
    · exact .inr ⟨by omega, h1⟩
/-- what is so behind a search -/
def PlPost (n : Nat) (R : Option (List Nat)) (l o ss : List Nat) : Prop := o.length = n ∧ (∀ q, R = some q → o = q) ∧ (R = none → o.take l.length = l ∧ ss = setsL l)
def PlSays (n : Nat) (c : Nat → Nat) (W g0 gs f : Nat) : Prop := ∀ (l : List Nat) (As : Option Addr) (cs : Nat) (o : List Nat) (w : World), l.length + f = n → Rg l → (∀ x ∈ l, x < 100) → o.length = n → o.take l.length = l →
  Mem ⟨0, blks [entBlk g0 106 (pcells n c W (.slice (some ⟨gs, 0, none⟩) n n) (.slice As (setsL l).length cs)), entOwn natEnc 1 3 (some ⟨gs, 0, none⟩) n o, entOwn u16Enc 1 40 As cs (setsL l)], w⟩ w [entBlk g0 106 (pcells n c W (.slice (some ⟨gs, 0, none⟩) n n) (.slice As (setsL l).length cs)), entOwn natEnc 1 3 (some ⟨gs, 0, none⟩) n o, entOwn u16Enc 1 40 As cs (setsL l)] →
  Calls Tryz.prog 53 #[.pointer (some ⟨g0, 0, none⟩), .int .i64 l.length] w fun e w' =>
    ∃ x : {x : List Nat × List Nat × Option Addr × Nat // PlPost n (CO c W f l) l x.1 x.2.1}, e = .returned (.bool (CO c W f l).isSome) ∧ Mem ⟨0, blks [entBlk g0 106 (pcells n c W (.slice (some ⟨gs, 0, none⟩) n n) (.slice As (setsL l).length cs)), entOwn natEnc 1 3 (some ⟨gs, 0, none⟩) n o, entOwn u16Enc 1 40 As cs (setsL l)], w⟩ w' [entBlk g0 106 (pcells n c W (.slice (some ⟨gs, 0, none⟩) n n) (.slice x.1.2.2.1 x.1.2.1.length x.1.2.2.2)), entOwn natEnc 1 3 (some ⟨gs, 0, none⟩) n x.1.1, entOwn u16Enc 1 40 x.1.2.2.1 x.1.2.2.2 x.1.2.1]
section
variable (n : Nat) (c : Nat → Nat) (W g0 gs : Nat) (hn : n ≤ 12) (hf : ∀ i, i < 12 → c i < 65536) (hW : W ≤ 12)
set_option maxRecDepth 100000 in
theorem place_zero : PlSays n c W g0 gs 0 := by
  intro l As cs o w hl hR hlt ho hot hm
  rw [CO]
  have hln : l.length = n := by omega
  generalize blks [entBlk g0 106 (pcells n c W (.slice (some ⟨gs, 0, none⟩) n n) (.slice As (setsL l).length cs)), entOwn natEnc 1 3 (some ⟨gs, 0, none⟩) n o, entOwn u16Enc 1 40 As cs (setsL l)] = F at hm ⊢
  refine calls_T F Tryz.func53 rfl Tryz.ntmps53 (by simp) (hm.anyN _) ?_
  repeat' (first | ((first | with_reducible (first | apply TL_q | apply TD_q0 | apply TD_q1 | apply TD_q2 | apply TD_q3) | ((with_reducible (first | apply TD_q0y | apply TD_q1y)); exact rfl; exact rfl; (with_reducible exact rfl))); (first | ((with_reducible apply QS_load); exact rfl; exact Lds.blk Zm (pc_15 _ _ _ _ _)) | ((with_reducible apply QS_load); exact rfl; exact Lds.blk Zm (pc_14 _ _ _ _ _)) | ((with_reducible apply QS_load); exact rfl; exact Lds.blk Zm (pc_13 _ _ _ _ _)) | ((with_reducible apply QS_load); exact rfl; exact Lds.blk Zm (pc_0 _ _ _ _ _)) | exact QS.auto | ((with_reducible apply QS_sliceHighJ (j := (setsK l k).length - 1)); exact rfl; exact rfl; omega; omega)); exact rfl) | ((with_reducible (first | apply TD_e2z | apply TD_e3z | apply TL_e | apply TD_e2 | apply TD_e3)); (first | ((with_reducible apply ES_store); exact rfl; exact rfl; exact Zu; exact pc_set15 _ _ _ _ _ _; exact pc_lt15 _ _ _ _ _; exact rfl) | exact ES.auto); (first | exact rfl | exact ⟨rfl, rfl, rfl⟩); (first | rintro _ _ ⟨rfl, rfl⟩ | rintro _ _ ⟨g, rfl, rfl⟩ | rintro _ _ ⟨A', c', rfl, rfl⟩); (try refine ⟨SUB, ?_⟩)) | refine GO ?_ | (refine GOE ?_; (first | rintro _ _ ⟨rfl, rfl⟩ | rintro _ _ ⟨g, rfl, rfl⟩ | rintro _ _ ⟨A', c', rfl, rfl⟩)) | (refine GO2 ?_ ?_ <;> (refine Zs ?_; intro h; try exact Zx)) | fail)
  (refine At_ret Tryz.results53 rfl (fun w' hw => ?_))
  refine ⟨⟨(o, setsL l, As, cs), ho, fun q hq => ?_, fun h => by cases h⟩, rfl, hw.anyN 0⟩
  cases hq
  rw [← hot, hln, ← ho, List.take_length]
include hn hf hW
set_option maxRecDepth 100000 in
set_option maxHeartbeats 8000000 in
theorem place_step (f : Nat) (ih : PlSays n c W g0 gs f) : PlSays n c W g0 gs (f + 1) := by
  intro l As cs o w hl hR hlt ho hot hm
  have hln : l.length < n := by omega
  obtain ⟨F, hF⟩ : ∃ F, CO c W f = F := ⟨_, rfl⟩
  have hCO : CO c W (f + 1) l = (List.range (min W (fresh l + 1))).findSome? (tryCl F c l) := by rw [CO, hF]
  obtain ⟨R, hRR⟩ : ∃ R, CO c W (f + 1) l = R := ⟨_, rfl⟩
  rw [hRR] at hCO ⊢
  have hsl := setsL_len l
  have hfr : fresh l ≤ 100 := by
    have : ∀ (l : List Nat) (b : Nat), b ≤ 100 → (∀ x ∈ l, x < 100) → l.foldl (fun m k => max m (k + 1)) b ≤ 100 := by
      intro l
      induction l with
      | nil => intro b hb _; exact hb
      | cons x l ih => intro b hb h; exact ih _ (by have := h x (by simp); show max b (x + 1) ≤ 100; omega) (fun y hy => h y (by simp [hy]))
    exact this l 0 (by omega) hlt
  obtain ⟨M, hM⟩ : ∃ M, min W (fresh l + 1) = M := ⟨_, rfl⟩
  have eM : min (((setsL l).length : Nat) + 1 : Int) (W : Int) = ((M : Nat) : Int) := by omega
  rw [hM] at hCO
  generalize blks [entBlk g0 106 (pcells n c W (.slice (some ⟨gs, 0, none⟩) n n) (.slice As (setsL l).length cs)), entOwn natEnc 1 3 (some ⟨gs, 0, none⟩) n o, entOwn u16Enc 1 40 As cs (setsL l)] = FB at hm ⊢
  refine calls_T FB Tryz.func53 rfl Tryz.ntmps53 (by simp) (hm.anyN _) ?_
  repeat' (first | ((first | with_reducible (first | apply TL_q | apply TD_q0 | apply TD_q1 | apply TD_q2 | apply TD_q3) | ((with_reducible (first | apply TD_q0y | apply TD_q1y)); exact rfl; exact rfl; (with_reducible exact rfl))); (first | ((with_reducible apply QS_load); exact rfl; exact Lds.blk Zm (pc_15 _ _ _ _ _)) | ((with_reducible apply QS_load); exact rfl; exact Lds.blk Zm (pc_14 _ _ _ _ _)) | ((with_reducible apply QS_load); exact rfl; exact Lds.blk Zm (pc_13 _ _ _ _ _)) | ((with_reducible apply QS_load); exact rfl; exact Lds.blk Zm (pc_0 _ _ _ _ _)) | exact QS.auto | ((with_reducible apply QS_sliceHighJ (j := (setsK l k).length - 1)); exact rfl; exact rfl; omega; omega)); exact rfl) | ((with_reducible (first | apply TD_e2z | apply TD_e3z | apply TL_e | apply TD_e2 | apply TD_e3)); (first | ((with_reducible apply ES_store); exact rfl; exact rfl; exact Zu; exact pc_set15 _ _ _ _ _ _; exact pc_lt15 _ _ _ _ _; exact rfl) | exact ES.auto); (first | exact rfl | exact ⟨rfl, rfl, rfl⟩); (first | rintro _ _ ⟨rfl, rfl⟩ | rintro _ _ ⟨g, rfl, rfl⟩ | rintro _ _ ⟨A', c', rfl, rfl⟩); (try refine ⟨SUB, ?_⟩)) | refine GG ?_ | (refine GE ?_; (first | rintro _ _ ⟨rfl, rfl⟩ | rintro _ _ ⟨g, rfl, rfl⟩ | rintro _ _ ⟨A', c', rfl, rfl⟩); (try refine ⟨SUB, ?_⟩)) | (refine GO2 ?_ ?_ <;> (refine Zs ?_; intro h; try exact Zx)) | refine GOF ?_ ?_ | ((with_reducible apply T_draw (id := 3) 1000 (OT.seq [(0, 0), (0, 1), (0, 2), (0, 6), (0, 7), (0, 8), (0, 11), (1, 3), (0, 4), (0, 5), (1, 9), (0, 10)] .nil)); kernel_rfl; exact rfl; kernel_rfl; (repeat (first | with_reducible exact Blind.body | with_reducible apply Blind.seq | with_reducible apply Blind.block))) | ((with_reducible apply T_draw (id := 14) 1000 (OT.seq [(0, 0), (0, 1), (0, 2), (0, 4), (0, 5), (0, 6), (1, 3), (1, 7), (0, 8), (0, 9), (0, 10), (1, 11), (0, 12)] .nil)); kernel_rfl; exact rfl; kernel_rfl; (repeat (first | with_reducible exact Blind.body | with_reducible apply Blind.seq | with_reducible apply Blind.block))) | ((with_reducible apply T_draw (id := 15) 14 (OT.seq [(0, 0), (0, 1), (0, 2), (0, 3), (0, 5), (0, 6), (0, 7), (1, 4), (1, 8), (0, 9), (0, 10), (0, 11), (0, 12), (0, 13), (3, 14)] .nil)); kernel_rfl; exact rfl; kernel_rfl; (repeat (first | with_reducible exact Blind.body | with_reducible apply Blind.seq | with_reducible apply Blind.block))) | fail)
  rw [eM]
  refine T_loop (X := Nat × List Nat × Option Addr × Nat) (fun x => [(24, .int .i64 (x.1 : Nat)), (23, .int .i64 M), (1, .int .i64 l.length), (0, .pointer (some ⟨g0, 0, none⟩))]) (fun x => [entBlk g0 106 (pcells n c W (.slice (some ⟨gs, 0, none⟩) n n) (.slice x.2.2.1 (setsL l).length x.2.2.2)), entOwn natEnc 1 3 (some ⟨gs, 0, none⟩) n x.2.1, entOwn u16Enc 1 40 x.2.2.1 x.2.2.2 (setsL l)])
    (fun x => x.1 ≤ M ∧ x.2.1.length = n ∧ x.2.1.take l.length = l ∧ (List.range' x.1 (M - x.1)).findSome? (tryCl F c l) = R) (fun x => M - x.1) (0, o, As, cs) ⟨by simp, ho, hot, by dsimp only; rw [Nat.sub_zero, ← List.range_eq_range']; exact hCO.symm⟩ Ze (by exact SUBS) ?_
  rintro ⟨k, o, As, cs⟩ ⟨hk, ho, hot, hfs⟩
  dsimp only at hk ho hot hfs ⊢
  by_cases hkM : k < M
  · have hkf : k ≤ fresh l := by omega
    have hkW : k < W := by omega
    have hsK := setsK_len l hkf
    have hsat := setsK_at l hkf k hsK
    have hlast := setsK_last hR hkf
    have hput := setsK_put l hkf
    have htake := setsK_take l hkf (by omega)
    have hm16 : maskC l k < 65536 := Nat.lt_trans (maskC_lt l k) (by rw [show 65536 = 2 ^ 16 by rfl]; exact Nat.pow_lt_pow_right (by decide) (by omega))
    have hm16' : maskC (l ++ [k]) k < 65536 := Nat.lt_of_lt_of_le (maskC_lt (l ++ [k]) k) (by rw [show 65536 = 2 ^ 16 by rfl]; exact Nat.pow_le_pow_right (by decide) (by simp; omega))
    have hp16 : 2 ^ l.length < 65536 := by rw [show 65536 = 2 ^ 16 by rfl]; exact Nat.pow_lt_pow_right (by decide) (by omega)
    have hfok := fits_ok (k := k) hn hf hln
    rw [show M - k = (M - (k + 1)) + 1 by omega, List.range'_succ, List.findSome?_cons] at hfs
    have hfit : ∀ (o : List Nat) (A : Option Addr) (d : Nat) (C : Ctx) (w : World), Mem C w [entBlk g0 106 (pcells n c W (.slice (some ⟨gs, 0, none⟩) n n) (.slice A (setsK l k).length d)), entOwn natEnc 1 3 (some ⟨gs, 0, none⟩) n o, entOwn u16Enc 1 40 A d (setsK l k)] → Calls Tryz.prog 101 #[.pointer (some ⟨g0, 0, none⟩), .int .i64 l.length, .int .u16 ((setsK l k)[k] : Nat)] w fun e w' => e = .returned (.bool (okCl c l k)) ∧ Below w.heap.size w w' := by
      intro o A d C w hw
      have hb := hw.blkAt (g := g0) (t := 106) (cs := pcells n c W (.slice (some ⟨gs, 0, none⟩) n n) (.slice A (setsK l k).length d)) (by simp)
      have := fitsC_any n c l.length (maskC l k) g0 W (.slice (some ⟨gs, 0, none⟩) n n) (.slice A (setsK l k).length d) w hn hf hln hm16 hb.1 (fun o v h => by rw [hb.2 o, ← Array.getElem?_toList, nthV_eq]; exact h)
      rw [hfok] at this
      rw [hsat]; exact this
    have hrec : ∀ (o : List Nat) (A : Option Addr) (d : Nat) (C : Ctx) (w : World), o.length = n → o.take (l.length + 1) = l ++ [k] → Mem C w ([entBlk g0 106 (pcells n c W (.slice (some ⟨gs, 0, none⟩) n n) (.slice A (setsL (l ++ [k])).length d)), entOwn natEnc 1 3 (some ⟨gs, 0, none⟩) n o, entOwn u16Enc 1 40 A d (setsL (l ++ [k]))] ++ []) →
        Calls Tryz.prog 53 #[.pointer (some ⟨g0, 0, none⟩), .int .i64 ((l.length : Int) + 1)] w fun e w' =>
          ∃ x : {x : List Nat × List Nat × Option Addr × Nat // PlPost n (F (l ++ [k])) (l ++ [k]) x.1 x.2.1}, e = .returned (.bool (F (l ++ [k])).isSome) ∧ Mem ⟨0, blks [entBlk g0 106 (pcells n c W (.slice (some ⟨gs, 0, none⟩) n n) (.slice A (setsL (l ++ [k])).length d)), entOwn natEnc 1 3 (some ⟨gs, 0, none⟩) n o, entOwn u16Enc 1 40 A d (setsL (l ++ [k]))], w⟩ w' [entBlk g0 106 (pcells n c W (.slice (some ⟨gs, 0, none⟩) n n) (.slice x.1.2.2.1 x.1.2.1.length x.1.2.2.2)), entOwn natEnc 1 3 (some ⟨gs, 0, none⟩) n x.1.1, entOwn u16Enc 1 40 x.1.2.2.1 x.1.2.2.2 x.1.2.1] := by
      intro o A d C w ho hot hw
      have := ih (l ++ [k]) A d o w (by simp; omega) (hR.snoc hkf) (fun x hx => by
        rw [List.mem_append, List.mem_singleton] at hx
        rcases hx with hx | hx
        · exact hlt x hx
        · omega) ho (by simpa using hot) (hw.self 0)
      have e : (((l ++ [k]).length : Nat) : Int) = (l.length : Int) + 1 := by simp
      rw [e, hF] at this
      exact this
    have hlenK : (setsL (l ++ [k])).length = (setsK l k).length := by rw [← hput, List.length_set]
    repeat' (first
      | ((with_reducible refine T_cutIf (X := Option Addr × Nat) 6 (fun z => [(5, .int .i64 (k : Nat)), (24, .int .i64 (k : Nat)), (23, .int .i64 M), (1, .int .i64 l.length), (0, .pointer (some ⟨g0, 0, none⟩))]) (fun z => [entBlk g0 106 (pcells n c W (.slice (some ⟨gs, 0, none⟩) n n) (.slice z.1 (setsK l k).length z.2)), entOwn natEnc 1 3 (some ⟨gs, 0, none⟩) n o, entOwn u16Enc 1 40 z.1 z.2 (setsK l k)]) (fun _ => True) ?_ ?_))
      | ((first | with_reducible (first | apply TL_q | apply TD_q0 | apply TD_q1 | apply TD_q2 | apply TD_q3) | ((with_reducible (first | apply TD_q0y | apply TD_q1y)); exact rfl; exact rfl; (with_reducible exact rfl))); (first | ((with_reducible apply QS_load); exact rfl; exact Lds.blk Zm (pc_15 _ _ _ _ _)) | ((with_reducible apply QS_load); exact rfl; exact Lds.blk Zm (pc_14 _ _ _ _ _)) | ((with_reducible apply QS_load); exact rfl; exact Lds.blk Zm (pc_13 _ _ _ _ _)) | ((with_reducible apply QS_load); exact rfl; exact Lds.blk Zm (pc_0 _ _ _ _ _)) | exact QS.auto | ((with_reducible apply QS_sliceHighJ (j := (setsK l k).length - 1)); exact rfl; exact rfl; omega; omega)); exact rfl) | ((with_reducible (first | apply TD_e2z | apply TD_e3z | apply TL_e | apply TD_e2 | apply TD_e3)); (first | ((with_reducible apply ES_store); exact rfl; exact rfl; exact Zu; exact pc_set15 _ _ _ _ _ _; exact pc_lt15 _ _ _ _ _; exact rfl) | exact ES.auto); (first | exact rfl | exact ⟨rfl, rfl, rfl⟩); (first | rintro _ _ ⟨rfl, rfl⟩ | rintro _ _ ⟨g, rfl, rfl⟩ | rintro _ _ ⟨A', c', rfl, rfl⟩); (try refine ⟨SUB, ?_⟩)) | refine GO ?_ | (refine GOE ?_; (first | rintro _ _ ⟨rfl, rfl⟩ | rintro _ _ ⟨g, rfl, rfl⟩ | rintro _ _ ⟨A', c', rfl, rfl⟩)) | (refine GO2 ?_ ?_ <;> (refine Zs ?_; intro h; try exact Zx)) | ((with_reducible (first | apply TD_e2z | apply TD_e3z | apply TL_e | apply TD_e2 | apply TD_e3)); ((with_reducible apply ES_append1 (enc := u16Enc) (xx := 0)); exact rfl; exact rfl; (repeat (first | with_reducible exact List.mem_cons_self | with_reducible apply List.mem_cons_of_mem)); exact rfl; exact fun _ => rfl; exact fun _ => rfl; (intro A' c'; first | ((repeat (first | with_reducible exact Upd.here _ _ _ | with_reducible apply Upd.there)); done) | (repeat (first | exact Upd.here _ _ _ | apply Upd.there))); ((rw [hsl]; omega)); decide; exact rfl); (first | exact rfl | exact ⟨rfl, rfl, rfl⟩); (rintro _ _ ⟨A', c', rfl, rfl⟩); (try refine ⟨SUB, ?_⟩))
      | fail)
    · have e : setsL l ++ [0] = setsK l k := by unfold setsK; rw [if_pos (by omega)]
      rw [e]
      exact At_cut (A', c') trivial Ze (by exact SUBS)
    · have e : setsL l = setsK l k := by unfold setsK; rw [if_neg (by omega)]
      rw [e]
      exact At_cut (As, cs) trivial Ze (by exact SUBS)
    · rintro ⟨As, cs⟩ _
      refine T_own (ls := setsK l k) Zm (by omega) ?_
      rintro gA rfl
      dsimp only
      repeat' (first
        | ((with_reducible refine T_cutIf (X := List Nat × Option Addr × Nat) 8 (fun z => [(5, .int .i64 (k : Nat)), (24, .int .i64 (k : Nat)), (23, .int .i64 M), (1, .int .i64 l.length), (0, .pointer (some ⟨g0, 0, none⟩))]) (fun z => [entBlk g0 106 (pcells n c W (.slice (some ⟨gs, 0, none⟩) n n) (.slice z.2.1 (setsK l k).length z.2.2)), entOwn natEnc 1 3 (some ⟨gs, 0, none⟩) n z.1, entOwn u16Enc 1 40 z.2.1 z.2.2 (setsK l k)]) (fun z => z.1.length = n ∧ z.1.take l.length = l ∧ (List.range' (k + 1) (M - (k + 1))).findSome? (tryCl F c l) = R) ?_ ?_))
        | ((first | with_reducible (first | apply TL_q | apply TD_q0 | apply TD_q1 | apply TD_q2 | apply TD_q3) | ((with_reducible (first | apply TD_q0y | apply TD_q1y)); exact rfl; exact rfl; (with_reducible exact rfl))); (first | ((with_reducible apply QS_load); exact rfl; exact Lds.blk Zm (pc_15 _ _ _ _ _)) | ((with_reducible apply QS_load); exact rfl; exact Lds.blk Zm (pc_14 _ _ _ _ _)) | ((with_reducible apply QS_load); exact rfl; exact Lds.blk Zm (pc_13 _ _ _ _ _)) | ((with_reducible apply QS_load); exact rfl; exact Lds.blk Zm (pc_0 _ _ _ _ _)) | exact QS.auto | ((with_reducible apply QS_sliceHighJ (j := (setsK l k).length - 1)); exact rfl; exact rfl; omega; omega)); exact rfl) | ((with_reducible (first | apply TD_e2z | apply TD_e3z | apply TL_e | apply TD_e2 | apply TD_e3)); (first | ((with_reducible apply ES_store); exact rfl; exact rfl; exact Zu; exact pc_set15 _ _ _ _ _ _; exact pc_lt15 _ _ _ _ _; exact rfl) | exact ES.auto); (first | exact rfl | exact ⟨rfl, rfl, rfl⟩); (first | rintro _ _ ⟨rfl, rfl⟩ | rintro _ _ ⟨g, rfl, rfl⟩ | rintro _ _ ⟨A', c', rfl, rfl⟩); (try refine ⟨SUB, ?_⟩)) | refine GO ?_ | (refine GOE ?_; (first | rintro _ _ ⟨rfl, rfl⟩ | rintro _ _ ⟨g, rfl, rfl⟩ | rintro _ _ ⟨A', c', rfl, rfl⟩)) | (refine GO2 ?_ ?_ <;> (refine Zs ?_; intro h; try exact Zx)) | ((with_reducible (first | apply TD_e2z | apply TD_e3z | apply TL_e | apply TD_e2 | apply TD_e3)); ((with_reducible apply ES_callV (f := 101)); exact rfl; (intro w hw; exact hfit _ _ _ _ w hw); exact rfl); (first | exact rfl | exact ⟨rfl, rfl, rfl⟩); (rintro _ _ ⟨rfl, rfl⟩); (try refine ⟨SUB, ?_⟩))
        | fail)
      · have hset : (o.set l.length k).take (l.length + 1) = l ++ [k] := by
          rw [List.take_add_one, List.take_set_of_le (Nat.le_refl _), hot, List.getElem?_set_self (by omega)]; rfl
        have hok : okCl c l k = true := h
        unfold tryCl at hfs
        rw [hok, if_pos rfl] at hfs
        have hput2 : (setsK l k).set k ((setsK l k)[k] ||| 2 ^ l.length) = setsL (l ++ [k]) := by rw [hsat, hput]
        rw [hput2, ← hlenK]
        have hkL : k < (setsL (l ++ [k])).length := by omega
        have hat2 := setsL_at (l ++ [k]) hkL
        have hput3 : (setsL (l ++ [k])).set k ((setsL (l ++ [k]))[k] &&& (65535 - 2 ^ l.length)) = setsK l k := by rw [hat2, htake]
        clear h
        cases hq : F (l ++ [k]) with
        | none =>
          rw [hq] at hfs
          have hrec2 := fun C w hw => hrec (o.set l.length k) (some ⟨gA, 0, none⟩) cs C w (by rw [List.length_set, ho]) hset hw
          rw [hq] at hrec2
          repeat' (first | ((first | with_reducible (first | apply TL_q | apply TD_q0 | apply TD_q1 | apply TD_q2 | apply TD_q3) | ((with_reducible (first | apply TD_q0y | apply TD_q1y)); exact rfl; exact rfl; (with_reducible exact rfl))); (first | ((with_reducible apply QS_load); exact rfl; exact Lds.blk Zm (pc_15 _ _ _ _ _)) | ((with_reducible apply QS_load); exact rfl; exact Lds.blk Zm (pc_14 _ _ _ _ _)) | ((with_reducible apply QS_load); exact rfl; exact Lds.blk Zm (pc_13 _ _ _ _ _)) | ((with_reducible apply QS_load); exact rfl; exact Lds.blk Zm (pc_0 _ _ _ _ _)) | exact QS.auto | ((with_reducible apply QS_sliceHighJ (j := (setsK l k).length - 1)); exact rfl; exact rfl; omega; omega)); exact rfl) | ((with_reducible (first | apply TD_e2z | apply TD_e3z | apply TL_e | apply TD_e2 | apply TD_e3)); (first | ((with_reducible apply ES_store); exact rfl; exact rfl; exact Zu; exact pc_set15 _ _ _ _ _ _; exact pc_lt15 _ _ _ _ _; exact rfl) | exact ES.auto); (first | exact rfl | exact ⟨rfl, rfl, rfl⟩); (first | rintro _ _ ⟨rfl, rfl⟩ | rintro _ _ ⟨g, rfl, rfl⟩ | rintro _ _ ⟨A', c', rfl, rfl⟩); (try refine ⟨SUB, ?_⟩)) | refine GO ?_ | (refine GOE ?_; (first | rintro _ _ ⟨rfl, rfl⟩ | rintro _ _ ⟨g, rfl, rfl⟩ | rintro _ _ ⟨A', c', rfl, rfl⟩)) | (refine GO2 ?_ ?_ <;> (refine Zs ?_; intro h; try exact Zx)) | ((with_reducible (first | apply TD_e2z | apply TD_e3z | apply TL_e | apply TD_e2 | apply TD_e3)); ((with_reducible apply ES_callX (f := 53) (X := {x : List Nat × List Nat × Option Addr × Nat // PlPost n (none) (l ++ [k]) x.1 x.2.1}) (S1 := [entBlk g0 106 (pcells n c W (.slice (some ⟨gs, 0, none⟩) n n) (.slice (some ⟨gA, 0, none⟩) (setsL (l ++ [k])).length cs)), entOwn natEnc 1 3 (some ⟨gs, 0, none⟩) n (o.set l.length k), entOwn u16Enc 1 40 (some ⟨gA, 0, none⟩) cs (setsL (l ++ [k]))]) (fun _ => .bool ((none) : Option (List Nat)).isSome) (fun x => [entBlk g0 106 (pcells n c W (.slice (some ⟨gs, 0, none⟩) n n) (.slice x.1.2.2.1 x.1.2.1.length x.1.2.2.2)), entOwn natEnc 1 3 (some ⟨gs, 0, none⟩) n x.1.1, entOwn u16Enc 1 40 x.1.2.2.1 x.1.2.2.2 x.1.2.1])); exact rfl; exact Zp; (intro x; (try dsimp only); exact Za); (intro w hw; exact hrec2 _ w hw); exact rfl); (first | exact rfl | exact ⟨rfl, rfl, rfl⟩); (rintro _ _ ⟨⟨⟨o2, ss2, A2, d2⟩, hp2⟩, rfl, rfl⟩); (try refine ⟨SUB, ?_⟩)) | fail)
          dsimp only
          obtain ⟨ho2, _, hn2⟩ := hp2
          obtain ⟨hot2, rfl⟩ := hn2 rfl
          refine TL_facts (fun w hw => hw.ownForm (enc := u16Enc) (ls := setsL (l ++ [k])) Zm (by omega)) ?_
          rintro ⟨gB, rfl⟩
          have hat3 : (setsL (l ++ [k]))[k] < 65536 := by rw [hat2]; exact hm16'
          repeat' (first | ((first | with_reducible (first | apply TL_q | apply TD_q0 | apply TD_q1 | apply TD_q2 | apply TD_q3) | ((with_reducible (first | apply TD_q0y | apply TD_q1y)); exact rfl; exact rfl; (with_reducible exact rfl))); (first | ((with_reducible apply QS_load); exact rfl; exact Lds.blk Zm (pc_15 _ _ _ _ _)) | ((with_reducible apply QS_load); exact rfl; exact Lds.blk Zm (pc_14 _ _ _ _ _)) | ((with_reducible apply QS_load); exact rfl; exact Lds.blk Zm (pc_13 _ _ _ _ _)) | ((with_reducible apply QS_load); exact rfl; exact Lds.blk Zm (pc_0 _ _ _ _ _)) | exact QS.auto | ((with_reducible apply QS_sliceHighJ (j := (setsK l k).length - 1)); exact rfl; exact rfl; omega; omega)); exact rfl) | ((with_reducible (first | apply TD_e2z | apply TD_e3z | apply TL_e | apply TD_e2 | apply TD_e3)); (first | ((with_reducible apply ES_store); exact rfl; exact rfl; exact Zu; exact pc_set15 _ _ _ _ _ _; exact pc_lt15 _ _ _ _ _; exact rfl) | exact ES.auto); (first | exact rfl | exact ⟨rfl, rfl, rfl⟩); (first | rintro _ _ ⟨rfl, rfl⟩ | rintro _ _ ⟨g, rfl, rfl⟩ | rintro _ _ ⟨A', c', rfl, rfl⟩); (try refine ⟨SUB, ?_⟩)) | refine GO ?_ | (refine GOE ?_; (first | rintro _ _ ⟨rfl, rfl⟩ | rintro _ _ ⟨g, rfl, rfl⟩ | rintro _ _ ⟨A', c', rfl, rfl⟩)) | (refine GO2 ?_ ?_ <;> (refine Zs ?_; intro h; try exact Zx)) | fail)
          rw [hput3, hlenK]
          have hot3 : o2.take l.length = l := by
            have := congrArg (List.take l.length) hot2
            rw [List.take_take, List.length_append, List.take_left' rfl] at this
            simpa using this
          exact At_cut (o2, some ⟨gB, 0, none⟩, d2) ⟨ho2, hot3, hfs⟩ Ze (by exact SUBS)
        | some q =>
          have hrec2 := fun C w hw => hrec (o.set l.length k) (some ⟨gA, 0, none⟩) cs C w (by rw [List.length_set, ho]) hset hw
          rw [hq] at hrec2 hfs
          repeat' (first | ((first | with_reducible (first | apply TL_q | apply TD_q0 | apply TD_q1 | apply TD_q2 | apply TD_q3) | ((with_reducible (first | apply TD_q0y | apply TD_q1y)); exact rfl; exact rfl; (with_reducible exact rfl))); (first | ((with_reducible apply QS_load); exact rfl; exact Lds.blk Zm (pc_15 _ _ _ _ _)) | ((with_reducible apply QS_load); exact rfl; exact Lds.blk Zm (pc_14 _ _ _ _ _)) | ((with_reducible apply QS_load); exact rfl; exact Lds.blk Zm (pc_13 _ _ _ _ _)) | ((with_reducible apply QS_load); exact rfl; exact Lds.blk Zm (pc_0 _ _ _ _ _)) | exact QS.auto | ((with_reducible apply QS_sliceHighJ (j := (setsK l k).length - 1)); exact rfl; exact rfl; omega; omega)); exact rfl) | ((with_reducible (first | apply TD_e2z | apply TD_e3z | apply TL_e | apply TD_e2 | apply TD_e3)); (first | ((with_reducible apply ES_store); exact rfl; exact rfl; exact Zu; exact pc_set15 _ _ _ _ _ _; exact pc_lt15 _ _ _ _ _; exact rfl) | exact ES.auto); (first | exact rfl | exact ⟨rfl, rfl, rfl⟩); (first | rintro _ _ ⟨rfl, rfl⟩ | rintro _ _ ⟨g, rfl, rfl⟩ | rintro _ _ ⟨A', c', rfl, rfl⟩); (try refine ⟨SUB, ?_⟩)) | refine GO ?_ | (refine GOE ?_; (first | rintro _ _ ⟨rfl, rfl⟩ | rintro _ _ ⟨g, rfl, rfl⟩ | rintro _ _ ⟨A', c', rfl, rfl⟩)) | (refine GO2 ?_ ?_ <;> (refine Zs ?_; intro h; try exact Zx)) | ((with_reducible (first | apply TD_e2z | apply TD_e3z | apply TL_e | apply TD_e2 | apply TD_e3)); ((with_reducible apply ES_callX (f := 53) (X := {x : List Nat × List Nat × Option Addr × Nat // PlPost n (some q) (l ++ [k]) x.1 x.2.1}) (S1 := [entBlk g0 106 (pcells n c W (.slice (some ⟨gs, 0, none⟩) n n) (.slice (some ⟨gA, 0, none⟩) (setsL (l ++ [k])).length cs)), entOwn natEnc 1 3 (some ⟨gs, 0, none⟩) n (o.set l.length k), entOwn u16Enc 1 40 (some ⟨gA, 0, none⟩) cs (setsL (l ++ [k]))]) (fun _ => .bool ((some q) : Option (List Nat)).isSome) (fun x => [entBlk g0 106 (pcells n c W (.slice (some ⟨gs, 0, none⟩) n n) (.slice x.1.2.2.1 x.1.2.1.length x.1.2.2.2)), entOwn natEnc 1 3 (some ⟨gs, 0, none⟩) n x.1.1, entOwn u16Enc 1 40 x.1.2.2.1 x.1.2.2.2 x.1.2.1])); exact rfl; exact Zp; (intro x; (try dsimp only); exact Za); (intro w hw; exact hrec2 _ w hw); exact rfl); (first | exact rfl | exact ⟨rfl, rfl, rfl⟩); (rintro _ _ ⟨⟨⟨o2, ss2, A2, d2⟩, hp2⟩, rfl, rfl⟩); (try refine ⟨SUB, ?_⟩)) | fail)
          (refine At_ret Tryz.results53 rfl (fun w' hw => ?_))
          have hfs' : some q = R := hfs
          subst hfs'
          exact ⟨⟨(o2, ss2, A2, d2), ⟨hp2.1, fun q' hq' => hp2.2.1 q' hq', fun h => by cases h⟩⟩, rfl, hw.anyN 0⟩
      · have hok : okCl c l k = false := h
        unfold tryCl at hfs
        rw [hok] at hfs
        exact At_cut (o, some ⟨gA, 0, none⟩, cs) ⟨ho, hot, hfs⟩ Ze (by exact SUBS)
      · rintro ⟨o, As, cs⟩ ⟨ho, hot, hfs⟩
        refine T_own (ls := setsK l k) Zm (by omega) ?_
        rintro gA rfl
        dsimp only at ho hot hfs ⊢
        have hKl : (setsK l k).length ≤ 101 := by unfold setsK; split <;> simp [hsl] <;> omega
        refine T_ownLe (enc := u16Enc) (ls := setsK l k) Zm fun hle => ?_
        have e0 : (setsK l k).getD ((setsK l k).length - 1) 0 = (setsK l k)[(((setsK l k).length : Int) - 1).toNat]'(by omega) := by
          have e1 : (((setsK l k).length : Int) - 1).toNat = (setsK l k).length - 1 := by omega
          simp only [e1]
          rw [List.getD_eq_getElem?_getD, List.getElem?_eq_getElem (by omega), Option.getD_some]
        rw [e0] at hlast
        repeat' (first | ((first | with_reducible (first | apply TL_q | apply TD_q0 | apply TD_q1 | apply TD_q2 | apply TD_q3) | ((with_reducible (first | apply TD_q0y | apply TD_q1y)); exact rfl; exact rfl; (with_reducible exact rfl))); (first | ((with_reducible apply QS_load); exact rfl; exact Lds.blk Zm (pc_15 _ _ _ _ _)) | ((with_reducible apply QS_load); exact rfl; exact Lds.blk Zm (pc_14 _ _ _ _ _)) | ((with_reducible apply QS_load); exact rfl; exact Lds.blk Zm (pc_13 _ _ _ _ _)) | ((with_reducible apply QS_load); exact rfl; exact Lds.blk Zm (pc_0 _ _ _ _ _)) | exact QS.auto | ((with_reducible apply QS_sliceHighJ (j := (setsK l k).length - 1)); exact rfl; exact rfl; omega; omega)); exact rfl) | ((with_reducible (first | apply TD_e2z | apply TD_e3z | apply TL_e | apply TD_e2 | apply TD_e3)); (first | ((with_reducible apply ES_store); exact rfl; exact rfl; exact Zu; exact pc_set15 _ _ _ _ _ _; exact pc_lt15 _ _ _ _ _; exact rfl) | exact ES.auto); (first | exact rfl | exact ⟨rfl, rfl, rfl⟩); (first | rintro _ _ ⟨rfl, rfl⟩ | rintro _ _ ⟨g, rfl, rfl⟩ | rintro _ _ ⟨A', c', rfl, rfl⟩); (try refine ⟨SUB, ?_⟩)) | refine GG ?_ | (refine GE ?_; (first | rintro _ _ ⟨rfl, rfl⟩ | rintro _ _ ⟨g, rfl, rfl⟩ | rintro _ _ ⟨A', c', rfl, rfl⟩); (try refine ⟨SUB, ?_⟩)) | (refine GO2 ?_ ?_ <;> (refine Zs ?_; intro h; try exact Zx)) | refine GOF ?_ ?_ | ((with_reducible apply T_draw (id := 3) 1000 (OT.seq [(0, 0), (0, 1), (0, 2), (0, 6), (0, 7), (0, 8), (0, 11), (1, 3), (0, 4), (0, 5), (1, 9), (0, 10)] .nil)); kernel_rfl; exact rfl; kernel_rfl; (repeat (first | with_reducible exact Blind.body | with_reducible apply Blind.seq | with_reducible apply Blind.block))) | ((with_reducible apply T_draw (id := 14) 1000 (OT.seq [(0, 0), (0, 1), (0, 2), (0, 4), (0, 5), (0, 6), (1, 3), (1, 7), (0, 8), (0, 9), (0, 10), (1, 11), (0, 12)] .nil)); kernel_rfl; exact rfl; kernel_rfl; (repeat (first | with_reducible exact Blind.body | with_reducible apply Blind.seq | with_reducible apply Blind.block))) | ((with_reducible apply T_draw (id := 15) 14 (OT.seq [(0, 0), (0, 1), (0, 2), (0, 3), (0, 5), (0, 6), (0, 7), (1, 4), (1, 8), (0, 9), (0, 10), (0, 11), (0, 12), (0, 13), (3, 14)] .nil)); kernel_rfl; exact rfl; kernel_rfl; (repeat (first | with_reducible exact Blind.body | with_reducible apply Blind.seq | with_reducible apply Blind.block))) | fail)
        · have hkk : k = fresh l := hlast.1 (by omega)
          have e : setsK l k = setsL l ++ [0] := by unfold setsK; rw [if_pos hkk]
          have e2 : (setsK l k).length - 1 = (setsL l).length := by rw [e]; simp
          refine At_rounds (k + 1, o, some ⟨gA, 0, none⟩, cs) ⟨hkM, ho, hot, hfs⟩ (by dsimp only; omega) Ze (fun w hw => by rw [e2, e] at hw; exact Mem.ownTake (enc := u16Enc) (M := 1) (ls := setsL l) (x := 0) (et := 40) (g := gA) (c := cs) Zu (fun _ => rfl) hw)
        · have hkk : ¬ k = fresh l := fun e => by have := hlast.2 e; omega
          have e : setsK l k = setsL l := by unfold setsK; rw [if_neg hkk]
          exact At_rounds (k + 1, o, some ⟨gA, 0, none⟩, cs) ⟨hkM, ho, hot, hfs⟩ (by dsimp only; omega) Ze (fun w hw => by rw [e] at hw; exact hw)
  · obtain rfl : k = M := by omega
    rw [Nat.sub_self] at hfs
    have hfs' : none = R := hfs
    subst hfs'
    repeat' (first | ((first | with_reducible (first | apply TL_q | apply TD_q0 | apply TD_q1 | apply TD_q2 | apply TD_q3) | ((with_reducible (first | apply TD_q0y | apply TD_q1y)); exact rfl; exact rfl; (with_reducible exact rfl))); (first | ((with_reducible apply QS_load); exact rfl; exact Lds.blk Zm (pc_15 _ _ _ _ _)) | ((with_reducible apply QS_load); exact rfl; exact Lds.blk Zm (pc_14 _ _ _ _ _)) | ((with_reducible apply QS_load); exact rfl; exact Lds.blk Zm (pc_13 _ _ _ _ _)) | ((with_reducible apply QS_load); exact rfl; exact Lds.blk Zm (pc_0 _ _ _ _ _)) | exact QS.auto | ((with_reducible apply QS_sliceHighJ (j := (setsK l k).length - 1)); exact rfl; exact rfl; omega; omega)); exact rfl) | ((with_reducible (first | apply TD_e2z | apply TD_e3z | apply TL_e | apply TD_e2 | apply TD_e3)); (first | ((with_reducible apply ES_store); exact rfl; exact rfl; exact Zu; exact pc_set15 _ _ _ _ _ _; exact pc_lt15 _ _ _ _ _; exact rfl) | exact ES.auto); (first | exact rfl | exact ⟨rfl, rfl, rfl⟩); (first | rintro _ _ ⟨rfl, rfl⟩ | rintro _ _ ⟨g, rfl, rfl⟩ | rintro _ _ ⟨A', c', rfl, rfl⟩); (try refine ⟨SUB, ?_⟩)) | refine GO ?_ | (refine GOE ?_; (first | rintro _ _ ⟨rfl, rfl⟩ | rintro _ _ ⟨g, rfl, rfl⟩ | rintro _ _ ⟨A', c', rfl, rfl⟩)) | (refine GO2 ?_ ?_ <;> (refine Zs ?_; intro h; try exact Zx)) | fail)
    (refine At_ret Tryz.results53 rfl (fun w' hw => ?_))
    exact ⟨⟨(o, setsL l, As, cs), ⟨ho, fun q hq => (by cases hq), fun _ => ⟨hot, rfl⟩⟩⟩, rfl, hw.anyN 0⟩
theorem place_all : ∀ f, PlSays n c W g0 gs f
  | 0 => place_zero n c W g0 gs
  | f + 1 => place_step n c W g0 gs hn hf hW f (place_all f)
end
end Go.Proofs.YtjdckepbihcgfaaGreatDoor

namespace Go.Proofs.YtjdckepbihcgfaaGreatDoor
open Go.RowKit

theorem TL_swap {P : Program} {C : Ctx} {Q : Exit → Act → World → Prop} {E : Slots} {S S' : List Ent} {l rest : List Oper} (hS : ∀ w, Mem C w S → Mem C w S') (h : TL P C l Q rest E S') : TL P C l Q rest E S :=
  ⟨fun a w ha hw => h.run a w ha (hS w hw)⟩
theorem place_start (n : Nat) (c : Nat → Nat) (W g0 gs : Nat) (hn : n ≤ 12) (hf : ∀ i, i < 12 → c i < 65536) (hW : W ≤ 12) (q : List Nat) (hq : CO c W n [] = some q) {C : Ctx} {R : List Ent} {w : World}
    (hw : Mem C w ([entBlk g0 106 (pcells n c W (.slice (some ⟨gs, 0, none⟩) n n) (.slice none ([] : List Nat).length 0)), entOwn natEnc 1 3 (some ⟨gs, 0, none⟩) n (List.replicate n 0), entOwn u16Enc 1 40 none 0 ([] : List Nat)] ++ R)) :
    Calls Tryz.prog 53 #[.pointer (some ⟨g0, 0, none⟩), .int .i64 0] w fun e w' =>
      ∃ x : {x : List Nat × List Nat × Option Addr × Nat // PlPost n (some q) [] x.1 x.2.1}, e = .returned (.bool true) ∧ Mem ⟨0, blks [entBlk g0 106 (pcells n c W (.slice (some ⟨gs, 0, none⟩) n n) (.slice none ([] : List Nat).length 0)), entOwn natEnc 1 3 (some ⟨gs, 0, none⟩) n (List.replicate n 0), entOwn u16Enc 1 40 none 0 ([] : List Nat)], w⟩ w' [entBlk g0 106 (pcells n c W (.slice (some ⟨gs, 0, none⟩) n n) (.slice x.1.2.2.1 x.1.2.1.length x.1.2.2.2)), entOwn natEnc 1 3 (some ⟨gs, 0, none⟩) n x.1.1, entOwn u16Enc 1 40 x.1.2.2.1 x.1.2.2.2 x.1.2.1] := by
  have h := place_all n c W g0 gs hn hf hW n [] none 0 (List.replicate n 0) w (by simp) (fun k hk => absurd hk (by simp [fresh])) (by simp) (by simp) (by simp) (hw.self 0)
  rw [hq] at h
  exact h
theorem wid_le (n : Nat) (c : Nat → Nat) : wid n c ≤ n := nodup_le n _ ((LA_all (n := n) (c := c)).1.asc.imp fun h => Nat.ne_of_lt h) (LA_all (n := n) (c := c)).1.lt
section
variable (n : Nat) (f : Nat → Nat) (w : World) (hn : n ≤ 12) (hf : ∀ i, i < 12 → f i < 65536) (h0 : chkR n f = 0)
include hn hf h0
set_option maxRecDepth 100000 in
set_option maxHeartbeats 4000000 in
theorem chainsL_ok (hc : isCyc n (closedF n f) = false) (hP : Po n (closedF n f)) (q : List Nat) (hq : CO (closedF n f) (wid n (closedF n f)) n [] = some q) :
    Calls Tryz.prog 22 #[.agg (relCells n f)] w fun e w' => ∃ A c, e = .returned (.tuple #[.slice A q.length c, .int .i64 0]) ∧ Own natEnc 1 3 w' w.heap.size (.slice A q.length c) q ∧ Below w.heap.size w w' := by
  have hlt : ∀ i, i < 12 → closedF n f i < 65536 := fun i hi => wOut_lt (B := 16) hf n hn n (by omega) i hi
  have hwd := fun w => widest_any n (closedF n f) w hn hlt
  have hac := fun w => acyclic_ok n f w hn hf h0 hc
  have hww : (wideTo (closedF n f) (2 ^ n)).length = wid n (closedF n f) := by rw [wide_eq hn hP.irr]; rfl
  rw [← hww] at hq
  generalize closedF n f = c at *
  generalize wideTo c (2 ^ n) = l at *
  have hl12 : l.length ≤ 12 := by rw [hww]; exact Nat.le_trans (wid_le n c) hn
  refine calls_T (S := []) [] Tryz.func22 rfl Tryz.ntmps22 (by simp) (Mem.nil _) ?_
  repeat' (first | ((first | with_reducible (first | apply TL_q | apply TD_q0 | apply TD_q1 | apply TD_q2 | apply TD_q3) | ((with_reducible (first | apply TD_q0y | apply TD_q1y)); exact rfl; exact rfl; (with_reducible exact rfl))); (first | ((with_reducible apply QS_load); exact rfl; exact Lds.blk Zm (pc_14 _ _ _ _ _)) | exact QS.auto); exact rfl) | ((with_reducible (first | apply TD_e2z | apply TD_e3z | apply TL_e | apply TD_e2 | apply TD_e3)); (first | ((with_reducible apply ES_makeSlice (enc := natEnc) (z0 := 0)); exact rfl; exact rfl; exact rfl; (first | omega | (simp; omega)); decide; exact rfl) | exact ES.auto); (first | exact rfl | exact ⟨rfl, rfl, rfl⟩); (first | rintro _ _ ⟨rfl, rfl⟩ | rintro _ _ ⟨g, rfl, rfl⟩ | rintro _ _ ⟨A', c', rfl, rfl⟩); (try refine ⟨SUB, ?_⟩)) | refine GG ?_ | (refine GE ?_; (first | rintro _ _ ⟨rfl, rfl⟩ | rintro _ _ ⟨g, rfl, rfl⟩ | rintro _ _ ⟨A', c', rfl, rfl⟩); (try refine ⟨SUB, ?_⟩)) | (refine GO2 ?_ ?_ <;> (refine Zs ?_; intro h; try exact Zx)) | refine GOF ?_ ?_ | ((with_reducible apply T_draw (id := 4) 1000 (OT.seq [(0, 4), (1, 0), (1, 1), (1, 5)] (.fork (OT.seq [(2, 2), (0, 3), (2, 6), (0, 7), (2, 8), (0, 9)] .nil) (OT.seq [(2, 6), (2, 2), (0, 3), (0, 7), (2, 8), (0, 9)] .nil)))); kernel_rfl; exact rfl; kernel_rfl; (repeat (first | with_reducible exact Blind.body | with_reducible apply Blind.seq | with_reducible apply Blind.block))) | ((with_reducible (first | apply TD_e2z | apply TD_e3z | apply TL_e | apply TD_e2 | apply TD_e3)); ((with_reducible apply ES_callV (f := 49)); exact rfl; (intro w hw; exact hac w); exact rfl); (first | exact rfl | exact ⟨rfl, rfl, rfl⟩); (rintro _ _ ⟨rfl, rfl⟩); (try refine ⟨SUB, ?_⟩)) | ((with_reducible (first | apply TD_e2z | apply TD_e3z | apply TL_e | apply TD_e2 | apply TD_e3)); ((with_reducible apply ES_callOwn (f := 52)); exact rfl; (intro w hw; exact hwd w); exact rfl); (first | exact rfl | exact ⟨rfl, rfl, rfl⟩); (rintro _ _ ⟨A, c2, rfl, rfl⟩); (try refine ⟨SUB, ?_⟩)) | fail)
  all_goals
    rename_i gs
    refine TL_swap (S' := [entBlk g 106 (pcells n c l.length (.slice (some ⟨gs, 0, none⟩) n n) (.slice none ([] : List Nat).length 0)), entOwn natEnc 1 3 (some ⟨gs, 0, none⟩) n (List.replicate n 0), entOwn u16Enc 1 40 none 0 []]) (fun w hw => ?_) ?_
    · have h1 := (hw.nilOwn u16Enc 1 40).sel (T' := [entBlk g _ _, entOwn natEnc 1 _ (some ⟨gs, 0, none⟩) n _, entOwn u16Enc 1 _ none 0 _]) Zl
      exact h1
    repeat' (first | ((first | with_reducible (first | apply TL_q | apply TD_q0 | apply TD_q1 | apply TD_q2 | apply TD_q3) | ((with_reducible (first | apply TD_q0y | apply TD_q1y)); exact rfl; exact rfl; (with_reducible exact rfl))); (first | ((with_reducible apply QS_load); exact rfl; exact Lds.blk Zm (pc_14 _ _ _ _ _)) | exact QS.auto); exact rfl) | ((with_reducible (first | apply TD_e2z | apply TD_e3z | apply TL_e | apply TD_e2 | apply TD_e3)); (first | ((with_reducible apply ES_makeSlice (enc := natEnc) (z0 := 0)); exact rfl; exact rfl; exact rfl; (first | omega | (simp; omega)); decide; exact rfl) | exact ES.auto); (first | exact rfl | exact ⟨rfl, rfl, rfl⟩); (first | rintro _ _ ⟨rfl, rfl⟩ | rintro _ _ ⟨g, rfl, rfl⟩ | rintro _ _ ⟨A', c', rfl, rfl⟩); (try refine ⟨SUB, ?_⟩)) | refine GO ?_ | (refine GOE ?_; (first | rintro _ _ ⟨rfl, rfl⟩ | rintro _ _ ⟨g, rfl, rfl⟩ | rintro _ _ ⟨A', c', rfl, rfl⟩)) | (refine GO2 ?_ ?_ <;> (refine Zs ?_; intro h; try exact Zx)) | ((with_reducible (first | apply TD_e2z | apply TD_e3z | apply TL_e | apply TD_e2 | apply TD_e3)); ((with_reducible apply ES_callX (f := 53) (X := {x : List Nat × List Nat × Option Addr × Nat // PlPost n (some q) [] x.1 x.2.1}) (S1 := [entBlk g 106 (pcells n c l.length (.slice (some ⟨gs, 0, none⟩) n n) (.slice none ([] : List Nat).length 0)), entOwn natEnc 1 3 (some ⟨gs, 0, none⟩) n (List.replicate n 0), entOwn u16Enc 1 40 none 0 []]) (fun _ => .bool true) (fun x => [entBlk g 106 (pcells n c l.length (.slice (some ⟨gs, 0, none⟩) n n) (.slice x.1.2.2.1 x.1.2.1.length x.1.2.2.2)), entOwn natEnc 1 3 (some ⟨gs, 0, none⟩) n x.1.1, entOwn u16Enc 1 40 x.1.2.2.1 x.1.2.2.2 x.1.2.1])); exact rfl; exact Zp; (intro x; (try dsimp only); exact Za); (intro w hw; exact place_start n c l.length g gs hn hlt hl12 q hq hw); exact rfl); (first | exact rfl | exact ⟨rfl, rfl, rfl⟩); (rintro _ _ ⟨⟨⟨o2, ss2, A2, d2⟩, hp2⟩, rfl, rfl⟩); (try refine ⟨SUB, ?_⟩)) | fail)
    (refine At_ret Tryz.results22 rfl (fun w' hw => ?_))
    dsimp only at hw hp2
    obtain ⟨ho2, ho3, -⟩ := hp2
    obtain rfl := ho3 q rfl
    exact ⟨some ⟨gs, 0, none⟩, n, by rw [ho2]; rfl, by rw [ho2]; exact by have := hw.ownOut rfl (enc := natEnc) (M := 1) (et := 3) (A := some ⟨gs, 0, none⟩) (c := n) (ls := o2) Zm; rw [ho2] at this; exact this, hw.below0 rfl⟩
end
end Go.Proofs.YtjdckepbihcgfaaGreatDoor

namespace Go.Proofs.YtjdckepbihcgfaaGreatDoor
open Go.RowKit

theorem Fine.po {n : Nat} {f : Nat → Nat} (h : Fine n f) (hf0 : ∀ i, n ≤ i → i < 12 → f i = 0) : Po n (closedF n f) where
  lt := fun i hi j hb => by
    refine Classical.byContradiction fun hj => ?_
    have hn := h.n12
    have hlt := wOut_lt (B := n) (f := f) (fun i hi => by
      rcases Nat.lt_or_ge i n with h' | h'
      · exact h.lt i h'
      · rw [hf0 i h' hi]; exact Nat.two_pow_pos _) n hn n hn i (by omega)
    have := Nat.testBit_lt_two_pow (Nat.lt_of_lt_of_le hlt (Nat.pow_le_pow_right (by decide) (show n ≤ j by omega)))
    have hb' : (wOut f n n i).testBit j = true := hb
    rw [hb'] at this; cases this
  irr := fun i hi => h.irr hi
  tr := fun i j k hi hj h1 h2 => h.trans hi hj h1 h2
/-- the relation turned round, as far as it is filled -/
def bkF (c : Nat → Nat) (j m i : Nat) : Nat := bitsTo (fun b => (decide (b < j) || (decide (b = j) && decide (i < m))) && (c b).testBit i) 12
theorem bkF_bit (c : Nat → Nat) (j m i b : Nat) : (bkF c j m i).testBit b = (decide (b < 12) && ((decide (b < j) || (decide (b = j) && decide (i < m))) && (c b).testBit i)) := by
  unfold bkF; rw [bitsTo_testBit]
section
variable {n : Nat} {c : Nat → Nat}
theorem Po.bk (hn : n ≤ 12) (h : Po n c) : Po n (bkF c n 0) := by
  have hb : ∀ i b, (bkF c n 0 i).testBit b = true ↔ b < n ∧ (c b).testBit i = true := by
    intro i b
    rw [bkF_bit]; simp; omega
  refine ⟨fun i hi j h1 => ((hb i j).1 h1).1, fun i hi => ?_, fun i j k hi hj h1 h2 => ?_⟩
  · rw [Bool.eq_false_iff]
    intro h1
    have := ((hb i i).1 h1).2
    rw [h.irr i hi] at this; cases this
  · obtain ⟨_, h3⟩ := (hb i j).1 h1
    obtain ⟨h4, h5⟩ := (hb j k).1 h2
    exact (hb i k).2 ⟨h4, h.tr k j i h4 hj h5 h3⟩
/-- the ranks -/
def rkG (n : Nat) (c : Nat → Nat) (i : Nat) : Nat := hgt n (bkF c n 0) i - 1
theorem Po.g1 (hn : n ≤ 12) (h : Po n c) (i : Nat) (hi : i < n) : rkG n c i ≤ n := by have := (h.bk hn).hn hi; unfold rkG; omega
theorem Po.g2 (hn : n ≤ 12) (h : Po n c) (i j : Nat) (hi : i < n) (hj : j < n) (hb : (c i).testBit j = true) : rkG n c i + 1 ≤ rkG n c j := by
  have h2 := (h.bk hn).h2 (i := j) (j := i) hj (by rw [bkF_bit]; simp [hb]; omega)
  have h1 := (h.bk hn).h1 hi
  unfold rkG; omega
theorem Po.g3 (hn : n ≤ 12) (h : Po n c) (j : Nat) (hj : j < n) : rkG n c j = 0 ∨ ∃ i, i < n ∧ (c i).testBit j = true ∧ rkG n c j = rkG n c i + 1 := by
  rcases (h.bk hn).h3 hj with h3 | ⟨i, hi, hb, he⟩
  · left; unfold rkG; omega
  · right
    have h1 := (h.bk hn).h1 hi
    refine ⟨i, hi, ?_, by unfold rkG; omega⟩
    rw [bkF_bit] at hb
    simp at hb
    exact hb.2.2
end
section
variable (n : Nat) (c : Nat → Nat) (hn : n ≤ 12) (hP : Po n c)
include hn
end
end Go.Proofs.YtjdckepbihcgfaaGreatDoor

namespace Go.Proofs.YtjdckepbihcgfaaGreatDoor
open Go.RowKit

def Span.enc (s : Span) : List Value := [.int .i64 s.frm, .int .i64 s.til]
theorem rdSpan_of {w : World} {A : Option Addr} {l : List Span} (h : RdE Span.enc 2 w A l) : RdSpan w A l := by
  intro i s hs
  obtain ⟨b, o, h1, h2, h3⟩ := h i s hs
  exact ⟨b, o, h1, h2, h3 0 _ rfl, h3 1 _ rfl⟩
def spC (L : Nat) (c : Cl) : Span := ⟨c.from_, if c.to = -1 then (L : Int) else c.to⟩
def spL (L : Nat) (cs : List Cl) : List Span := cs.map (spC L)
theorem spL_len (L : Nat) (cs : List Cl) : (spL L cs).length = cs.length := by unfold spL; rw [List.length_map]
theorem spL_at {L : Nat} {cs : List Cl} {i : Nat} (h : i < cs.length) : spD (spL L cs) i = spC L cs[i] := by
  unfold spD spL
  rw [List.getD_eq_getElem?_getD, List.getElem?_map, List.getElem?_eq_getElem h]; rfl
theorem spL_succ {L : Nat} {cs : List Cl} {k : Nat} (h : k < cs.length) : spL L (cs.take (k + 1)) = spL L (cs.take k) ++ [spC L cs[k]] := by
  unfold spL
  rw [List.take_succ_eq_append_getElem h, List.map_append]; rfl
theorem open_ivl {ts : List Int} {l : List Ev} (hz : (callsR ts l).2.2 = 0) (h12 : (callsR ts l).1.length ≤ 12) : chk (spL l.length (callsR ts l).1) = 0 ∧ Ivl (spL l.length (callsR ts l).1) (relAhead (callsR ts l).1) := by
  obtain ⟨_, h200, _, h4⟩ := callsR_inv hz
  have ht := clsTo_st ts l l.length
  have hm := clsMore_st ts l l.length
  rw [← h4] at ht hm
  generalize (callsR ts l).1 = cs at *
  have hone : ∀ i (h : i < cs.length), 0 ≤ cs[i].from_ ∧ (spC l.length cs[i]).frm ≤ (spC l.length cs[i]).til ∧ (spC l.length cs[i]).til ≤ 1000000 := fun i h => by
    have h1 := hm.lt i h
    unfold spC
    dsimp only
    by_cases e : cs[i].to = -1
    · rw [if_pos e]; omega
    · rw [if_neg e]
      rcases ht.to i h with h2 | h2
      · exact absurd h2 e
      · omega
  constructor
  · unfold chk
    rw [spL_len, if_neg (by omega), if_neg]
    intro hb
    obtain ⟨s, hs, hb⟩ := List.any_eq_true.1 hb
    obtain ⟨c, hc, rfl⟩ := List.mem_map.1 hs
    obtain ⟨i, hi, rfl⟩ := List.mem_iff_getElem.1 hc
    obtain ⟨h1, h2, h3⟩ := hone i hi
    have h1' : 0 ≤ (spC l.length cs[i]).frm := h1
    unfold badSpan at hb
    simp only [Bool.or_eq_true, decide_eq_true_eq] at hb
    omega
  · refine ⟨fun i j hi hj => ?_, fun i hi => ?_⟩
    · rw [spL_len] at hi hj
      rw [spL_at hi, spL_at hj]
      unfold relAhead
      rw [relN_bit, Bool.and_eq_true, Bool.and_eq_true, decide_eq_true_eq, decide_eq_true_eq]
      unfold aheadP
      rw [clD hi, clD hj, Bool.and_eq_true, Bool.not_eq_true', decide_eq_false_iff_not, decide_eq_true_eq]
      have hj2 := hm.lt j hj
      show _ ↔ (if cs[i].to = -1 then (l.length : Int) else cs[i].to) < cs[j].from_
      by_cases e : cs[i].to = -1
      · rw [if_pos e]
        constructor
        · rintro ⟨_, _, h, _⟩; exact absurd e h
        · intro h; omega
      · rw [if_neg e]
        exact ⟨fun h => h.2.2.2, fun h => ⟨hi, hj, e, h⟩⟩
    · rw [spL_len] at hi
      rw [spL_at hi]
      exact (hone i hi).2.1
/-- all that the walk needs -/
theorem open_all {ts : List Int} {l : List Ev} (hz : (callsR ts l).2.2 = 0) (h12 : (callsR ts l).1.length ≤ 12) :
    ∃ (many : Nat) (q : List Nat), chk (spL l.length (callsR ts l).1) = 0 ∧ (meets (spL l.length (callsR ts l).1)).2 = (many : Int) ∧ Fine (callsR ts l).1.length (relAhead (callsR ts l).1) ∧ Po (callsR ts l).1.length (closedF (callsR ts l).1.length (relAhead (callsR ts l).1)) ∧
      (wideTo (closedF (callsR ts l).1.length (relAhead (callsR ts l).1)) (2 ^ (callsR ts l).1.length)).length = many ∧ CO (closedF (callsR ts l).1.length (relAhead (callsR ts l).1)) (wid (callsR ts l).1.length (closedF (callsR ts l).1.length (relAhead (callsR ts l).1))) (callsR ts l).1.length [] = some q ∧ fresh q = many ∧ q.length ≤ 12 ∧ (∀ x ∈ q, x < 12) ∧ many ≤ 12 := by
  obtain ⟨hc, hi⟩ := open_ivl hz h12
  generalize (callsR ts l).1 = cs at *
  obtain ⟨hF, hi2⟩ := hi.closed (fun i _ => by rw [spL_len]; exact relN_lt_n _ _ i) (by rw [spL_len]; exact h12)
  rw [spL_len] at hF hi2
  have hP := hF.po (fun i hi _ => relAhead_out cs i hi)
  have hw := hi2.wid
  rw [spL_len] at hw
  have hq := hP.CO_wid h12
  cases hq' : CO (closedF cs.length (relAhead cs)) (wid cs.length (closedF cs.length (relAhead cs))) cs.length [] with
  | none => exact absurd hq' hq
  | some q =>
    have hfr := CO_fresh hq'
    have hwl := wid_le cs.length (closedF cs.length (relAhead cs))
    obtain ⟨h1, h2⟩ := CO_sound cs.length [] q ⟨fun j hj => by simp at hj, fun i j hi => by simp at hi⟩ hq'
    refine ⟨_, q, hc, hw.symm, hF, hP, by rw [wide_eq h12 hP.irr]; rfl, rfl, hfr, by simpa [h2] using h12, fun x hx => ?_, by omega⟩
    obtain ⟨j, hj, rfl⟩ := List.mem_iff_getElem.1 hx
    have := h1.lt j hj
    omega
end Go.Proofs.YtjdckepbihcgfaaGreatDoor
