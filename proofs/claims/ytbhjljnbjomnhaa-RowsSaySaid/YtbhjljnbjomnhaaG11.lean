/- Lemmas for the walks (Rw3). No condition. -/
import Derived.Test.YtbhjljnbjomnhaaG10
import Derived.Test.YtbhjljnbjomnhaaG07
set_option linter.unusedSimpArgs false
set_option linter.unusedVariables false
set_option linter.unusedSectionVars false
set_option linter.unnecessarySimpa false
namespace Go.Proofs.Ytbhjljnbjomnhaa
open Go.RowKit

/-- where a log's own things lie -/
structure RG where
  g : Nat
  A : Option Addr
  ca : Nat
  V : Option Addr
  cv : Nat
theorem enqL_mem {cs : List Cl} {k : Nat} {r : Rvl} : r ∈ enqL cs k ↔ ∃ i, i < k ∧ (clK cs i).kind = 3 ∧ r = ⟨(clK cs i).arg, (i : Int), -1⟩ := by
  unfold enqL
  rw [List.mem_map]
  constructor
  · rintro ⟨i, hi, rfl⟩
    rw [List.mem_filter, List.mem_range] at hi
    exact ⟨i, hi.1, of_decide_eq_true hi.2, rfl⟩
  · rintro ⟨i, h1, h2, rfl⟩
    exact ⟨i, List.mem_filter.2 ⟨List.mem_range.2 h1, by simpa using h2⟩, rfl⟩
theorem enq_fresh {cs : List Cl} {k : Nat} (hb : clsB cs k = false) (h3 : (clK cs k).kind = 3) : ∀ r ∈ enqL cs k, r.n ≠ (clK cs k).arg := by
  intro r hr
  obtain ⟨i, h1, h2, rfl⟩ := enqL_mem.1 hr
  exact (clsB_no hb).2 h3 i h1 h2
theorem enq_again {cs : List Cl} {k : Nat} (hb : clsB cs k = true) (h3 : (clK cs k).kind = 3) : ∃ q, q < (enqL cs k).length ∧ ((enqL cs k).getD q default).n = (clK cs k).arg ∧ ∀ j, j < q → ((enqL cs k).getD j default).n ≠ (clK cs k).arg := by
  unfold clsB at hb
  rw [decide_eq_false (by omega), Bool.false_and, Bool.false_or, decide_eq_true h3, Bool.true_and, List.any_eq_true] at hb
  obtain ⟨i, hi, hp⟩ := hb
  rw [Bool.and_eq_true, decide_eq_true_eq, decide_eq_true_eq] at hp
  have hm : (⟨(clK cs i).arg, (i : Int), -1⟩ : Rvl) ∈ enqL cs k := enqL_mem.2 ⟨i, List.mem_range.1 hi, hp.1, rfl⟩
  have hex : ∃ r ∈ enqL cs k, (fun r : Rvl => decide (r.n = (clK cs k).arg)) r = true := ⟨_, hm, by simpa using hp.2⟩
  have hlt := List.findIdx_lt_length.2 hex
  refine ⟨_, hlt, ?_, fun j hj => ?_⟩
  · have := List.findIdx_getElem (w := hlt)
    rw [List.getD_eq_getElem?_getD, List.getElem?_eq_getElem hlt]
    simpa using this
  · have := List.not_of_lt_findIdx hj
    rw [List.getD_eq_getElem?_getD, List.getElem?_eq_getElem (by omega)]
    simpa using this
section
variable (B0 : Option Addr) (d0 : Nat) (l : List Ev) (w : World) (hl : l.length ≤ 9223372036854775807) (hA : RdEv w B0 l)
include hl hA
set_option maxRecDepth 100000 in
set_option maxHeartbeats 4000000 in
theorem rwRead_err (h : ¬ (callsR [2] l).2.2 = 0) : Calls Try.prog 65 #[.slice B0 l.length d0] w fun e w' => e = .returned (.tuple #[.pointer none, .int .i64 (callsR [2] l).2.2]) ∧ Below w.heap.size w w' := by
  have h1 := fun T w h1 h2 => callsCode_any T B0 1 d0 [2] l w (by decide) hl h1 h2
  obtain ⟨cs, y, z, hcr⟩ : ∃ cs y z, callsR [2] l = (cs, y, z) := ⟨_, _, _, rfl⟩
  rw [hcr] at h1 h ⊢
  dsimp only at h1 h ⊢
  clear hcr
  refine calls_T (S := []) [] Try.func65 rfl Try.ntmps65 (by simp) (Mem.nil _) ?_
  repeat' (first | ((with_reducible refine TL_mem (S' := [entOwn intEnc 1 3 (some ⟨g, 0, none⟩) 1 [2]]) (fun w hw => Mem.asOwn (enc := intEnc) (M := 1) [2] (Upd.here _ _ _) rfl (fun _ => rfl) (by decide) hw) ?_)) | ((first | with_reducible (first | apply TL_q | apply TD_q0 | apply TD_q1 | apply TD_q2 | apply TD_q3) | ((with_reducible (first | apply TD_q0y | apply TD_q1y)); exact rfl; exact rfl; (with_reducible exact rfl))); (first | ((with_reducible apply QS_neqPS); exact rfl; exact rfl) | ((with_reducible apply QS_neqPZ); exact rfl; exact rfl) | ((with_reducible apply QS_eqlPS); exact rfl; exact rfl) | ((with_reducible apply QS_eqlPZ); exact rfl; exact rfl) | exact QS.auto); exact rfl) | (refine GO ?_) | (refine GOE ?_; (first | (rintro _ _ ⟨rfl, rfl⟩) | (rintro _ _ ⟨g, rfl, rfl⟩) | (rintro _ _ ⟨A', c', rfl, rfl⟩))) | ((refine GO2 ?_ ?_) <;> intro h <;> (try (repeat (first | with_reducible (replace h := of_decide_eq_true h) | with_reducible (replace h := of_decide_eq_false h) | with_reducible (replace h := bnt h) | with_reducible (replace h := bnf h) | with_reducible (replace h := Int.not_lt.mp h) | with_reducible (replace h := Int.not_le.mp h) | with_reducible (replace h := band_dec h) | with_reducible (replace h := band_decF h) | with_reducible (replace h := bor_dec h) | with_reducible (replace h := bor_decF h)))) <;> (try (exfalso; first | contradiction | omega))) | ((with_reducible (first | apply TD_e2z | apply TD_e3z | apply TL_e | apply TD_e2 | apply TD_e3)); ((with_reducible apply ES_callOwn (f := 98)); exact rfl; (intro w hw; exact h1 (some ⟨g, 0, none⟩) w (hw.ownRd (by first | ((repeat (first | with_reducible exact List.mem_cons_self | with_reducible apply List.mem_cons_of_mem)); done) | (repeat (first | exact List.Mem.head _ | apply List.Mem.tail))) (fun _ => rfl)) (hw.rd rfl hA)); exact rfl); (first | exact rfl | exact ⟨rfl, rfl, rfl⟩); (rintro _ _ ⟨A1, c1, rfl, rfl⟩); (try refine ⟨SUB, ?_⟩)) | fail)
  (refine At_ret Try.results65 rfl (fun w' hw => ?_))
  exact ⟨rfl, hw.below0 rfl⟩
set_option maxRecDepth 100000 in
set_option maxHeartbeats 8000000 in
theorem rwRead_bad (h : (callsR [2] l).2.2 = 0) (hbad : ∃ i, i < (callsR [2] l).1.length ∧ clsB (callsR [2] l).1 i = true) : Calls Try.prog 65 #[.slice B0 l.length d0] w fun e w' => e = .returned (.tuple #[.pointer none, .int .i64 6]) ∧ Below w.heap.size w w' := by
  have hall := quAll_of h
  have h1 := fun T w h1 h2 => callsCode_any T B0 1 d0 [2] l w (by decide) hl h1 h2
  obtain ⟨cs, y, z, hcr⟩ : ∃ cs y z, callsR [2] l = (cs, y, z) := ⟨_, _, _, rfl⟩
  rw [hcr] at h1 h hall hbad
  dsimp only at h1 h hall hbad
  subst h
  clear hcr
  have hfew := hall.few
  refine calls_T (S := []) [] Try.func65 rfl Try.ntmps65 (by simp) (Mem.nil _) ?_
  repeat' (first | ((with_reducible refine TL_mem (S' := [entOwn intEnc 1 3 (some ⟨g, 0, none⟩) 1 [2]]) (fun w hw => Mem.asOwn (enc := intEnc) (M := 1) [2] (Upd.here _ _ _) rfl (fun _ => rfl) (by decide) hw) ?_)) | ((first | with_reducible (first | apply TL_q | apply TD_q0 | apply TD_q1 | apply TD_q2 | apply TD_q3) | ((with_reducible (first | apply TD_q0y | apply TD_q1y)); exact rfl; exact rfl; (with_reducible exact rfl))); (first | ((with_reducible apply QS_neqPS); exact rfl; exact rfl) | ((with_reducible apply QS_neqPZ); exact rfl; exact rfl) | ((with_reducible apply QS_eqlPS); exact rfl; exact rfl) | ((with_reducible apply QS_eqlPZ); exact rfl; exact rfl) | exact QS.auto); exact rfl) | (refine GO ?_) | (refine GOE ?_; (first | (rintro _ _ ⟨rfl, rfl⟩) | (rintro _ _ ⟨g, rfl, rfl⟩) | (rintro _ _ ⟨A', c', rfl, rfl⟩))) | ((refine GO2 ?_ ?_) <;> intro h <;> (try (repeat (first | with_reducible (replace h := of_decide_eq_true h) | with_reducible (replace h := of_decide_eq_false h) | with_reducible (replace h := bnt h) | with_reducible (replace h := bnf h) | with_reducible (replace h := Int.not_lt.mp h) | with_reducible (replace h := Int.not_le.mp h) | with_reducible (replace h := band_dec h) | with_reducible (replace h := band_decF h) | with_reducible (replace h := bor_dec h) | with_reducible (replace h := bor_decF h)))) <;> (try (exfalso; first | contradiction | omega))) | ((with_reducible (first | apply TD_e2z | apply TD_e3z | apply TL_e | apply TD_e2 | apply TD_e3)); ((with_reducible apply ES_callOwn (f := 98)); exact rfl; (intro w hw; exact h1 (some ⟨g, 0, none⟩) w (hw.ownRd (by first | ((repeat (first | with_reducible exact List.mem_cons_self | with_reducible apply List.mem_cons_of_mem)); done) | (repeat (first | exact List.Mem.head _ | apply List.Mem.tail))) (fun _ => rfl)) (hw.rd rfl hA)); exact rfl); (first | exact rfl | exact ⟨rfl, rfl, rfl⟩); (rintro _ _ ⟨A1, c1, rfl, rfl⟩); (try refine ⟨SUB, ?_⟩)) | fail)
  obtain ⟨gl, rfl⟩ : ∃ x, x = g := ⟨_, rfl⟩
  refine T_loop (X := Nat × Option Addr × Nat) (fun x => [(28, .int .i64 (x.1 : Nat)), (27, .int .i64 cs.length), (26, .slice A1 cs.length c1), (7, .pointer (some ⟨gl, 0, none⟩)), (4, .slice A1 cs.length c1)]) (fun x => [entBlk gl 220 #[.slice A1 cs.length c1, .slice x.2.1 (enqL cs x.1).length x.2.2], entOwn Cl.enc 7 43 A1 c1 cs, entOwn Rvl.enc 3 224 x.2.1 x.2.2 (enqL cs x.1)]) (fun x => x.1 ≤ cs.length ∧ ∀ i, i < x.1 → clsB cs i = false) (fun x => cs.length - x.1) (0, none, 0) ⟨by (try dsimp only); omega, fun i hi => absurd hi (Nat.not_lt_zero _)⟩ (by (repeat (first | exact SubE.nil _ | refine SubE.cons rfl ?_))) (fun w' hw => by (show Mem _ w' [entBlk gl 220 #[.slice A1 cs.length c1, .slice none 0 0], entOwn Cl.enc 7 43 A1 c1 cs, entOwn Rvl.enc 3 224 none 0 ([] : List Rvl)]); exact (hw.nilOwn Rvl.enc 3 224).sel (by (repeat (first | exact Sel.nil _ | (apply Sel.cons; (repeat (first | with_reducible exact Pick.here _ _ | with_reducible apply Pick.there))))))) ?_
  rintro ⟨k, PA, pc⟩ ⟨hk, hcl⟩
  dsimp only at hk hcl ⊢
  have hel := enqL_len cs k
  by_cases hkl : k < cs.length
  · have hck := clK_eq hkl
    have hes := enqL_succ cs k
    have hkind := hall.kind k hkl
    have hfr := enq_fresh (cs := cs) (k := k)
    have hag := enq_again (cs := cs) (k := k)
    have hcn := clsB_no (cs := cs) (i := k)
    have hcb : clsB cs k = true → (clK cs k).kind = 4 → (clK cs k).to = -1 := fun hb h4 => by
      unfold clsB at hb
      rw [decide_eq_true h4, decide_eq_false (show ¬ (clK cs k).kind = 3 by omega)] at hb
      simpa using hb
    rw [hck] at hes hkind hfr hag hcn hcb
    refine T_own (enc := Cl.enc) (ls := cs) (by first | ((repeat (first | with_reducible exact List.mem_cons_self | with_reducible apply List.mem_cons_of_mem)); done) | (repeat (first | exact List.Mem.head _ | apply List.Mem.tail))) (by omega) ?_
    rintro gC rfl
    generalize enqL cs k = O at *
    cases hb : clsB cs k with
    | false =>
      by_cases h3 : cs[k].kind = 3
      · rw [if_pos h3] at hes
        have hfn := hfr hb h3
        repeat' (first | ((first | with_reducible (first | apply TL_q | apply TD_q0 | apply TD_q1 | apply TD_q2 | apply TD_q3) | ((with_reducible (first | apply TD_q0y | apply TD_q1y)); exact rfl; exact rfl; (with_reducible exact rfl))); (first | ((with_reducible apply QS_neqPS); exact rfl; exact rfl) | ((with_reducible apply QS_neqPZ); exact rfl; exact rfl) | ((with_reducible apply QS_eqlPS); exact rfl; exact rfl) | ((with_reducible apply QS_eqlPZ); exact rfl; exact rfl) | exact QS.auto); exact rfl) | (refine GG ?_) | (refine GE ?_; (first | (rintro _ _ ⟨rfl, rfl⟩) | (rintro _ _ ⟨g, rfl, rfl⟩) | (rintro _ _ ⟨A', c', rfl, rfl⟩)); (try refine ⟨SUB, ?_⟩)) | ((refine GO2 ?_ ?_) <;> intro h <;> (try (repeat (first | with_reducible (replace h := of_decide_eq_true h) | with_reducible (replace h := of_decide_eq_false h) | with_reducible (replace h := bnt h) | with_reducible (replace h := bnf h) | with_reducible (replace h := Int.not_lt.mp h) | with_reducible (replace h := Int.not_le.mp h) | with_reducible (replace h := band_dec h) | with_reducible (replace h := band_decF h) | with_reducible (replace h := bor_dec h) | with_reducible (replace h := bor_decF h)))) <;> (try (exfalso; first | contradiction | omega))) | (refine GOF ?_ ?_) | ((with_reducible apply T_draw (id := 13) 10 (OT.seq [(0, 0), (0, 1), (0, 2), (0, 3), (0, 5), (0, 7), (1, 4), (1, 6), (0, 8), (2, 9), (3, 10), (0, 11), (0, 12), (3, 13)] .nil)); kernel_rfl; exact rfl; kernel_rfl; (repeat (first | with_reducible exact Blind.body | with_reducible apply Blind.seq | with_reducible apply Blind.block))) | ((with_reducible (first | apply TD_e2z | apply TD_e3z | apply TL_e | apply TD_e2 | apply TD_e3)); ((with_reducible apply ES_callV (f := 115)); exact rfl; (intro w hw; exact find_no gl (some ⟨gC, 0, none⟩) PA cs.length c1 pc O cs[k].arg w (hw.theBlk (by first | ((repeat (first | with_reducible exact List.mem_cons_self | with_reducible apply List.mem_cons_of_mem)); done) | (repeat (first | exact List.Mem.head _ | apply List.Mem.tail)))) (hw.ownRd (by first | ((repeat (first | with_reducible exact List.mem_cons_self | with_reducible apply List.mem_cons_of_mem)); done) | (repeat (first | exact List.Mem.head _ | apply List.Mem.tail))) (fun _ => rfl)) (by omega) hfn); exact rfl); (first | exact rfl | exact ⟨rfl, rfl, rfl⟩); (rintro _ _ ⟨rfl, rfl⟩); (try refine ⟨SUB, ?_⟩)) | ((with_reducible (first | apply TD_e2z | apply TD_e3z | apply TL_e | apply TD_e2 | apply TD_e3)); ((with_reducible apply ES_append1 (enc := Rvl.enc) (xx := ⟨cs[k].arg, (k : Int), -1⟩)); exact rfl; exact rfl; (repeat (first | with_reducible exact List.mem_cons_self | with_reducible apply List.mem_cons_of_mem)); exact rfl; exact fun _ => rfl; exact fun _ => rfl; (intro A' c'; first | ((repeat (first | with_reducible exact Upd.here _ _ _ | with_reducible apply Upd.there)); done) | (repeat (first | exact Upd.here _ _ _ | apply Upd.there))); (omega); decide; exact rfl); (first | exact rfl | exact ⟨rfl, rfl, rfl⟩); (rintro _ _ ⟨A', c', rfl, rfl⟩); (try refine ⟨SUB, ?_⟩)) | fail)
        all_goals first | (exfalso; omega) | (apply At_rounds (k + 1, A', c'); (case hE => (try dsimp only); (repeat (first | exact SubE.nil _ | refine SubE.cons rfl ?_))); (case hS => (try dsimp only); rw [hes]; exact fun w' hw => hw.sel (by (repeat (first | exact Sel.nil _ | (apply Sel.cons; (repeat (first | with_reducible exact Pick.here _ _ | with_reducible apply Pick.there))))))); (case hμ => (try dsimp only); omega); (case hp => exact ⟨by (try dsimp only); omega, fun i hi => (Nat.lt_succ_iff_lt_or_eq.1 hi).elim (fun e => hcl i e) (fun e => by subst e; exact hb)⟩))
      · rw [if_neg h3] at hes
        have hto := (hcn hb).1 (by omega)
        repeat' (first | ((first | with_reducible (first | apply TL_q | apply TD_q0 | apply TD_q1 | apply TD_q2 | apply TD_q3) | ((with_reducible (first | apply TD_q0y | apply TD_q1y)); exact rfl; exact rfl; (with_reducible exact rfl))); (first | ((with_reducible apply QS_neqPS); exact rfl; exact rfl) | ((with_reducible apply QS_neqPZ); exact rfl; exact rfl) | ((with_reducible apply QS_eqlPS); exact rfl; exact rfl) | ((with_reducible apply QS_eqlPZ); exact rfl; exact rfl) | exact QS.auto); exact rfl) | (refine GO ?_) | (refine GOE ?_; (first | (rintro _ _ ⟨rfl, rfl⟩) | (rintro _ _ ⟨g, rfl, rfl⟩) | (rintro _ _ ⟨A', c', rfl, rfl⟩))) | ((refine GO2 ?_ ?_) <;> intro h <;> (try (repeat (first | with_reducible (replace h := of_decide_eq_true h) | with_reducible (replace h := of_decide_eq_false h) | with_reducible (replace h := bnt h) | with_reducible (replace h := bnf h) | with_reducible (replace h := Int.not_lt.mp h) | with_reducible (replace h := Int.not_le.mp h) | with_reducible (replace h := band_dec h) | with_reducible (replace h := band_decF h) | with_reducible (replace h := bor_dec h) | with_reducible (replace h := bor_decF h)))) <;> (try (exfalso; first | contradiction | omega))) | fail)
        all_goals first | (exfalso; omega) | (apply At_rounds (k + 1, PA, pc); (case hE => (try dsimp only); (repeat (first | exact SubE.nil _ | refine SubE.cons rfl ?_))); (case hS => (try dsimp only); rw [hes]; exact fun w' hw => hw.sel (by (repeat (first | exact Sel.nil _ | (apply Sel.cons; (repeat (first | with_reducible exact Pick.here _ _ | with_reducible apply Pick.there))))))); (case hμ => (try dsimp only); omega); (case hp => exact ⟨by (try dsimp only); omega, fun i hi => (Nat.lt_succ_iff_lt_or_eq.1 hi).elim (fun e => hcl i e) (fun e => by subst e; exact hb)⟩))
    | true =>
      by_cases h3 : cs[k].kind = 3
      · obtain ⟨q, hq, hqn, hqm⟩ := hag hb h3
        refine T_own (enc := Rvl.enc) (ls := O) (by first | ((repeat (first | with_reducible exact List.mem_cons_self | with_reducible apply List.mem_cons_of_mem)); done) | (repeat (first | exact List.Mem.head _ | apply List.Mem.tail))) (by omega) ?_
        rintro gV rfl
        repeat' (first | ((first | with_reducible (first | apply TL_q | apply TD_q0 | apply TD_q1 | apply TD_q2 | apply TD_q3) | ((with_reducible (first | apply TD_q0y | apply TD_q1y)); exact rfl; exact rfl; (with_reducible exact rfl))); (first | ((with_reducible apply QS_neqPS); exact rfl; exact rfl) | ((with_reducible apply QS_neqPZ); exact rfl; exact rfl) | ((with_reducible apply QS_eqlPS); exact rfl; exact rfl) | ((with_reducible apply QS_eqlPZ); exact rfl; exact rfl) | exact QS.auto); exact rfl) | (refine GO ?_) | (refine GOE ?_; (first | (rintro _ _ ⟨rfl, rfl⟩) | (rintro _ _ ⟨g, rfl, rfl⟩) | (rintro _ _ ⟨A', c', rfl, rfl⟩))) | ((refine GO2 ?_ ?_) <;> intro h <;> (try (repeat (first | with_reducible (replace h := of_decide_eq_true h) | with_reducible (replace h := of_decide_eq_false h) | with_reducible (replace h := bnt h) | with_reducible (replace h := bnf h) | with_reducible (replace h := Int.not_lt.mp h) | with_reducible (replace h := Int.not_le.mp h) | with_reducible (replace h := band_dec h) | with_reducible (replace h := band_decF h) | with_reducible (replace h := bor_dec h) | with_reducible (replace h := bor_decF h)))) <;> (try (exfalso; first | contradiction | omega))) | ((with_reducible (first | apply TD_e2z | apply TD_e3z | apply TL_e | apply TD_e2 | apply TD_e3)); ((with_reducible apply ES_callV (f := 115)); exact rfl; (intro w hw; exact find_yes gl (some ⟨gC, 0, none⟩) (some ⟨gV, 0, none⟩) cs.length c1 pc O cs[k].arg w (hw.theBlk (by first | ((repeat (first | with_reducible exact List.mem_cons_self | with_reducible apply List.mem_cons_of_mem)); done) | (repeat (first | exact List.Mem.head _ | apply List.Mem.tail)))) (hw.ownRd (by first | ((repeat (first | with_reducible exact List.mem_cons_self | with_reducible apply List.mem_cons_of_mem)); done) | (repeat (first | exact List.Mem.head _ | apply List.Mem.tail))) (fun _ => rfl)) (by omega) q hq hqn hqm gV 0 rfl); exact rfl); (first | exact rfl | exact ⟨rfl, rfl, rfl⟩); (rintro _ _ ⟨rfl, rfl⟩); (try refine ⟨SUB, ?_⟩)) | fail)
        all_goals first | (exfalso; omega) | ((refine At_ret Try.results65 rfl (fun w' hw => ?_)); exact ⟨rfl, hw.below0 rfl⟩)
      · have hto := hcb hb (by omega)
        repeat' (first | ((first | with_reducible (first | apply TL_q | apply TD_q0 | apply TD_q1 | apply TD_q2 | apply TD_q3) | ((with_reducible (first | apply TD_q0y | apply TD_q1y)); exact rfl; exact rfl; (with_reducible exact rfl))); (first | ((with_reducible apply QS_neqPS); exact rfl; exact rfl) | ((with_reducible apply QS_neqPZ); exact rfl; exact rfl) | ((with_reducible apply QS_eqlPS); exact rfl; exact rfl) | ((with_reducible apply QS_eqlPZ); exact rfl; exact rfl) | exact QS.auto); exact rfl) | (refine GO ?_) | (refine GOE ?_; (first | (rintro _ _ ⟨rfl, rfl⟩) | (rintro _ _ ⟨g, rfl, rfl⟩) | (rintro _ _ ⟨A', c', rfl, rfl⟩))) | ((refine GO2 ?_ ?_) <;> intro h <;> (try (repeat (first | with_reducible (replace h := of_decide_eq_true h) | with_reducible (replace h := of_decide_eq_false h) | with_reducible (replace h := bnt h) | with_reducible (replace h := bnf h) | with_reducible (replace h := Int.not_lt.mp h) | with_reducible (replace h := Int.not_le.mp h) | with_reducible (replace h := band_dec h) | with_reducible (replace h := band_decF h) | with_reducible (replace h := bor_dec h) | with_reducible (replace h := bor_decF h)))) <;> (try (exfalso; first | contradiction | omega))) | fail)
        all_goals first | (exfalso; omega) | ((refine At_ret Try.results65 rfl (fun w' hw => ?_)); exact ⟨rfl, hw.below0 rfl⟩)
  · exfalso
    obtain ⟨i, h2, h3⟩ := hbad
    rw [hcl i (by omega)] at h3; cases h3
set_option maxRecDepth 100000 in
set_option maxHeartbeats 8000000 in
theorem rwRead_ok (h : (callsR [2] l).2.2 = 0) (hgood : ∀ i, i < (callsR [2] l).1.length → clsB (callsR [2] l).1 i = false) : Calls Try.prog 65 #[.slice B0 l.length d0] w fun e w' => ∃ L : RG, e = .returned (.tuple #[.pointer (some ⟨L.g, 0, none⟩), .int .i64 0]) ∧
    Mem ⟨0, [], w⟩ w' [entBlk L.g 220 #[.slice L.A (callsR [2] l).1.length L.ca, .slice L.V (valL (callsR [2] l).1 (callsR [2] l).1.length).length L.cv], entOwn Cl.enc 7 43 L.A L.ca (callsR [2] l).1, entOwn Rvl.enc 3 224 L.V L.cv (valL (callsR [2] l).1 (callsR [2] l).1.length)] := by
  have hall := quAll_of h
  have h1 := fun T w h1 h2 => callsCode_any T B0 1 d0 [2] l w (by decide) hl h1 h2
  obtain ⟨cs, y, z, hcr⟩ : ∃ cs y z, callsR [2] l = (cs, y, z) := ⟨_, _, _, rfl⟩
  rw [hcr] at h1 h hall hgood ⊢
  dsimp only at h1 h hall hgood ⊢
  subst h
  clear hcr
  have hok := quOk_of hall hgood
  have hfew := hall.few
  have hkl := keyQ_len hok
  refine calls_T (S := []) [] Try.func65 rfl Try.ntmps65 (by simp) (Mem.nil _) ?_
  repeat' (first | ((with_reducible refine TL_mem (S' := [entOwn intEnc 1 3 (some ⟨g, 0, none⟩) 1 [2]]) (fun w hw => Mem.asOwn (enc := intEnc) (M := 1) [2] (Upd.here _ _ _) rfl (fun _ => rfl) (by decide) hw) ?_)) | ((first | with_reducible (first | apply TL_q | apply TD_q0 | apply TD_q1 | apply TD_q2 | apply TD_q3) | ((with_reducible (first | apply TD_q0y | apply TD_q1y)); exact rfl; exact rfl; (with_reducible exact rfl))); (first | ((with_reducible apply QS_neqPS); exact rfl; exact rfl) | ((with_reducible apply QS_neqPZ); exact rfl; exact rfl) | ((with_reducible apply QS_eqlPS); exact rfl; exact rfl) | ((with_reducible apply QS_eqlPZ); exact rfl; exact rfl) | exact QS.auto); exact rfl) | (refine GO ?_) | (refine GOE ?_; (first | (rintro _ _ ⟨rfl, rfl⟩) | (rintro _ _ ⟨g, rfl, rfl⟩) | (rintro _ _ ⟨A', c', rfl, rfl⟩))) | ((refine GO2 ?_ ?_) <;> intro h <;> (try (repeat (first | with_reducible (replace h := of_decide_eq_true h) | with_reducible (replace h := of_decide_eq_false h) | with_reducible (replace h := bnt h) | with_reducible (replace h := bnf h) | with_reducible (replace h := Int.not_lt.mp h) | with_reducible (replace h := Int.not_le.mp h) | with_reducible (replace h := band_dec h) | with_reducible (replace h := band_decF h) | with_reducible (replace h := bor_dec h) | with_reducible (replace h := bor_decF h)))) <;> (try (exfalso; first | contradiction | omega))) | ((with_reducible (first | apply TD_e2z | apply TD_e3z | apply TL_e | apply TD_e2 | apply TD_e3)); ((with_reducible apply ES_callOwn (f := 98)); exact rfl; (intro w hw; exact h1 (some ⟨g, 0, none⟩) w (hw.ownRd (by first | ((repeat (first | with_reducible exact List.mem_cons_self | with_reducible apply List.mem_cons_of_mem)); done) | (repeat (first | exact List.Mem.head _ | apply List.Mem.tail))) (fun _ => rfl)) (hw.rd rfl hA)); exact rfl); (first | exact rfl | exact ⟨rfl, rfl, rfl⟩); (rintro _ _ ⟨A1, c1, rfl, rfl⟩); (try refine ⟨SUB, ?_⟩)) | fail)
  obtain ⟨gl, rfl⟩ : ∃ x, x = g := ⟨_, rfl⟩
  refine T_loop (X := Nat × Option Addr × Nat) (fun x => [(28, .int .i64 (x.1 : Nat)), (27, .int .i64 cs.length), (26, .slice A1 cs.length c1), (7, .pointer (some ⟨gl, 0, none⟩)), (4, .slice A1 cs.length c1)]) (fun x => [entBlk gl 220 #[.slice A1 cs.length c1, .slice x.2.1 (enqL cs x.1).length x.2.2], entOwn Cl.enc 7 43 A1 c1 cs, entOwn Rvl.enc 3 224 x.2.1 x.2.2 (enqL cs x.1)]) (fun x => x.1 ≤ cs.length ∧ ∀ i, i < x.1 → clsB cs i = false) (fun x => cs.length - x.1) (0, none, 0) ⟨by (try dsimp only); omega, fun i hi => absurd hi (Nat.not_lt_zero _)⟩ (by (repeat (first | exact SubE.nil _ | refine SubE.cons rfl ?_))) (fun w' hw => by (show Mem _ w' [entBlk gl 220 #[.slice A1 cs.length c1, .slice none 0 0], entOwn Cl.enc 7 43 A1 c1 cs, entOwn Rvl.enc 3 224 none 0 ([] : List Rvl)]); exact (hw.nilOwn Rvl.enc 3 224).sel (by (repeat (first | exact Sel.nil _ | (apply Sel.cons; (repeat (first | with_reducible exact Pick.here _ _ | with_reducible apply Pick.there))))))) ?_
  rintro ⟨k, PA, pc⟩ ⟨hk, hcl⟩
  dsimp only at hk hcl ⊢
  have hel := enqL_len cs k
  by_cases hkl : k < cs.length
  · have hck := clK_eq hkl
    have hes := enqL_succ cs k
    have hkind := hall.kind k hkl
    have hfr := enq_fresh (cs := cs) (k := k)
    have hcn := clsB_no (cs := cs) (i := k)
    have hb := hgood k hkl
    rw [hck] at hes hkind hfr hcn
    refine T_own (enc := Cl.enc) (ls := cs) (by first | ((repeat (first | with_reducible exact List.mem_cons_self | with_reducible apply List.mem_cons_of_mem)); done) | (repeat (first | exact List.Mem.head _ | apply List.Mem.tail))) (by omega) ?_
    rintro gC rfl
    generalize enqL cs k = O at *
    by_cases h3 : cs[k].kind = 3
    · rw [if_pos h3] at hes
      have hfn := hfr hb h3
      repeat' (first | ((first | with_reducible (first | apply TL_q | apply TD_q0 | apply TD_q1 | apply TD_q2 | apply TD_q3) | ((with_reducible (first | apply TD_q0y | apply TD_q1y)); exact rfl; exact rfl; (with_reducible exact rfl))); (first | ((with_reducible apply QS_neqPS); exact rfl; exact rfl) | ((with_reducible apply QS_neqPZ); exact rfl; exact rfl) | ((with_reducible apply QS_eqlPS); exact rfl; exact rfl) | ((with_reducible apply QS_eqlPZ); exact rfl; exact rfl) | exact QS.auto); exact rfl) | (refine GG ?_) | (refine GE ?_; (first | (rintro _ _ ⟨rfl, rfl⟩) | (rintro _ _ ⟨g, rfl, rfl⟩) | (rintro _ _ ⟨A', c', rfl, rfl⟩)); (try refine ⟨SUB, ?_⟩)) | ((refine GO2 ?_ ?_) <;> intro h <;> (try (repeat (first | with_reducible (replace h := of_decide_eq_true h) | with_reducible (replace h := of_decide_eq_false h) | with_reducible (replace h := bnt h) | with_reducible (replace h := bnf h) | with_reducible (replace h := Int.not_lt.mp h) | with_reducible (replace h := Int.not_le.mp h) | with_reducible (replace h := band_dec h) | with_reducible (replace h := band_decF h) | with_reducible (replace h := bor_dec h) | with_reducible (replace h := bor_decF h)))) <;> (try (exfalso; first | contradiction | omega))) | (refine GOF ?_ ?_) | ((with_reducible apply T_draw (id := 13) 10 (OT.seq [(0, 0), (0, 1), (0, 2), (0, 3), (0, 5), (0, 7), (1, 4), (1, 6), (0, 8), (2, 9), (3, 10), (0, 11), (0, 12), (3, 13)] .nil)); kernel_rfl; exact rfl; kernel_rfl; (repeat (first | with_reducible exact Blind.body | with_reducible apply Blind.seq | with_reducible apply Blind.block))) | ((with_reducible (first | apply TD_e2z | apply TD_e3z | apply TL_e | apply TD_e2 | apply TD_e3)); ((with_reducible apply ES_callV (f := 115)); exact rfl; (intro w hw; exact find_no gl (some ⟨gC, 0, none⟩) PA cs.length c1 pc O cs[k].arg w (hw.theBlk (by first | ((repeat (first | with_reducible exact List.mem_cons_self | with_reducible apply List.mem_cons_of_mem)); done) | (repeat (first | exact List.Mem.head _ | apply List.Mem.tail)))) (hw.ownRd (by first | ((repeat (first | with_reducible exact List.mem_cons_self | with_reducible apply List.mem_cons_of_mem)); done) | (repeat (first | exact List.Mem.head _ | apply List.Mem.tail))) (fun _ => rfl)) (by omega) hfn); exact rfl); (first | exact rfl | exact ⟨rfl, rfl, rfl⟩); (rintro _ _ ⟨rfl, rfl⟩); (try refine ⟨SUB, ?_⟩)) | ((with_reducible (first | apply TD_e2z | apply TD_e3z | apply TL_e | apply TD_e2 | apply TD_e3)); ((with_reducible apply ES_append1 (enc := Rvl.enc) (xx := ⟨cs[k].arg, (k : Int), -1⟩)); exact rfl; exact rfl; (repeat (first | with_reducible exact List.mem_cons_self | with_reducible apply List.mem_cons_of_mem)); exact rfl; exact fun _ => rfl; exact fun _ => rfl; (intro A' c'; first | ((repeat (first | with_reducible exact Upd.here _ _ _ | with_reducible apply Upd.there)); done) | (repeat (first | exact Upd.here _ _ _ | apply Upd.there))); (omega); decide; exact rfl); (first | exact rfl | exact ⟨rfl, rfl, rfl⟩); (rintro _ _ ⟨A', c', rfl, rfl⟩); (try refine ⟨SUB, ?_⟩)) | fail)
      all_goals first | (exfalso; omega) | (apply At_rounds (k + 1, A', c'); (case hE => (try dsimp only); (repeat (first | exact SubE.nil _ | refine SubE.cons rfl ?_))); (case hS => (try dsimp only); rw [hes]; exact fun w' hw => hw.sel (by (repeat (first | exact Sel.nil _ | (apply Sel.cons; (repeat (first | with_reducible exact Pick.here _ _ | with_reducible apply Pick.there))))))); (case hμ => (try dsimp only); omega); (case hp => exact ⟨by (try dsimp only); omega, fun i hi => (Nat.lt_succ_iff_lt_or_eq.1 hi).elim (fun e => hcl i e) (fun e => by subst e; exact hb)⟩))
    · rw [if_neg h3] at hes
      have hto := (hcn hb).1 (by omega)
      repeat' (first | ((first | with_reducible (first | apply TL_q | apply TD_q0 | apply TD_q1 | apply TD_q2 | apply TD_q3) | ((with_reducible (first | apply TD_q0y | apply TD_q1y)); exact rfl; exact rfl; (with_reducible exact rfl))); (first | ((with_reducible apply QS_neqPS); exact rfl; exact rfl) | ((with_reducible apply QS_neqPZ); exact rfl; exact rfl) | ((with_reducible apply QS_eqlPS); exact rfl; exact rfl) | ((with_reducible apply QS_eqlPZ); exact rfl; exact rfl) | exact QS.auto); exact rfl) | (refine GO ?_) | (refine GOE ?_; (first | (rintro _ _ ⟨rfl, rfl⟩) | (rintro _ _ ⟨g, rfl, rfl⟩) | (rintro _ _ ⟨A', c', rfl, rfl⟩))) | ((refine GO2 ?_ ?_) <;> intro h <;> (try (repeat (first | with_reducible (replace h := of_decide_eq_true h) | with_reducible (replace h := of_decide_eq_false h) | with_reducible (replace h := bnt h) | with_reducible (replace h := bnf h) | with_reducible (replace h := Int.not_lt.mp h) | with_reducible (replace h := Int.not_le.mp h) | with_reducible (replace h := band_dec h) | with_reducible (replace h := band_decF h) | with_reducible (replace h := bor_dec h) | with_reducible (replace h := bor_decF h)))) <;> (try (exfalso; first | contradiction | omega))) | fail)
      all_goals first | (exfalso; omega) | (apply At_rounds (k + 1, PA, pc); (case hE => (try dsimp only); (repeat (first | exact SubE.nil _ | refine SubE.cons rfl ?_))); (case hS => (try dsimp only); rw [hes]; exact fun w' hw => hw.sel (by (repeat (first | exact Sel.nil _ | (apply Sel.cons; (repeat (first | with_reducible exact Pick.here _ _ | with_reducible apply Pick.there))))))); (case hμ => (try dsimp only); omega); (case hp => exact ⟨by (try dsimp only); omega, fun i hi => (Nat.lt_succ_iff_lt_or_eq.1 hi).elim (fun e => hcl i e) (fun e => by subst e; exact hb)⟩))
  · obtain rfl : k = cs.length := by omega
    have hbd : ∀ x ∈ enqL cs cs.length, 0 ≤ x.n ∧ x.n ≤ 1000 := fun x hx => by
      obtain ⟨i, h2, h3, rfl⟩ := enqL_mem.1 hx
      have := hok.put i h2 h3
      dsimp only; omega
    have hso := fun (x : SortTo (fun x y : Rvl => x.n - y.n) (enqL cs cs.length)) => enqL_sorted hok x.2.1 (x.2.2.imp fun h => by dsimp only at h; omega)
    have hsl := fun (x : SortTo (fun x y : Rvl => x.n - y.n) (enqL cs cs.length)) => x.2.1.length_eq
    have hl0 := valL_len cs 0
    generalize enqL cs cs.length = O at *
    repeat' (first | ((first | with_reducible (first | apply TL_q | apply TD_q0 | apply TD_q1 | apply TD_q2 | apply TD_q3) | ((with_reducible (first | apply TD_q0y | apply TD_q1y)); exact rfl; exact rfl; (with_reducible exact rfl))); (first | ((with_reducible apply QS_neqPS); exact rfl; exact rfl) | ((with_reducible apply QS_neqPZ); exact rfl; exact rfl) | ((with_reducible apply QS_eqlPS); exact rfl; exact rfl) | ((with_reducible apply QS_eqlPZ); exact rfl; exact rfl) | exact QS.auto); exact rfl) | (refine GO ?_) | (refine GOE ?_; (first | (rintro _ _ ⟨rfl, rfl⟩) | (rintro _ _ ⟨g, rfl, rfl⟩) | (rintro _ _ ⟨A', c', rfl, rfl⟩))) | ((refine GO2 ?_ ?_) <;> intro h <;> (try (repeat (first | with_reducible (replace h := of_decide_eq_true h) | with_reducible (replace h := of_decide_eq_false h) | with_reducible (replace h := bnt h) | with_reducible (replace h := bnf h) | with_reducible (replace h := Int.not_lt.mp h) | with_reducible (replace h := Int.not_le.mp h) | with_reducible (replace h := band_dec h) | with_reducible (replace h := band_decF h) | with_reducible (replace h := bor_dec h) | with_reducible (replace h := bor_decF h)))) <;> (try (exfalso; first | contradiction | omega))) | ((with_reducible (first | apply TD_e2z | apply TD_e3z | apply TL_e | apply TD_e2 | apply TD_e3)); ((with_reducible apply ES_callX (f := 116) (X := SortTo (fun x y : Rvl => x.n - y.n) O) (S1 := [entOwn Rvl.enc 3 224 PA pc O]) (fun _ => .tuple #[]) (fun x => [entOwn Rvl.enc 3 224 PA pc x.1])); exact rfl; ((repeat (first | exact Pull.nil _ | (apply Pull.cons; (repeat (first | with_reducible exact Pick.here _ _ | with_reducible apply Pick.there)))))); (intro x; (try dsimp only); repeat (first | exact AppL.nil _ | apply AppL.cons)); (intro w hw; exact rvl_sort PA pc O w hbd (hw.theOwn (by first | ((repeat (first | with_reducible exact List.mem_cons_self | with_reducible apply List.mem_cons_of_mem)); done) | (repeat (first | exact List.Mem.head _ | apply List.Mem.tail)))) (by omega)); exact rfl); (first | exact rfl | exact ⟨rfl, rfl, rfl⟩); (rintro _ _ ⟨x, rfl, rfl⟩); (try refine ⟨SUB, ?_⟩)) | fail)
    rw [hso x]
    have hOl : O.length = (valL cs 0).length := by rw [← hsl x, hso x]
    rw [hOl]
    repeat' (first | ((first | with_reducible (first | apply TL_q | apply TD_q0 | apply TD_q1 | apply TD_q2 | apply TD_q3) | ((with_reducible (first | apply TD_q0y | apply TD_q1y)); exact rfl; exact rfl; (with_reducible exact rfl))); (first | ((with_reducible apply QS_neqPS); exact rfl; exact rfl) | ((with_reducible apply QS_neqPZ); exact rfl; exact rfl) | ((with_reducible apply QS_eqlPS); exact rfl; exact rfl) | ((with_reducible apply QS_eqlPZ); exact rfl; exact rfl) | exact QS.auto); exact rfl) | (refine GO ?_) | (refine GOE ?_; (first | (rintro _ _ ⟨rfl, rfl⟩) | (rintro _ _ ⟨g, rfl, rfl⟩) | (rintro _ _ ⟨A', c', rfl, rfl⟩))) | ((refine GO2 ?_ ?_) <;> intro h <;> (try (repeat (first | with_reducible (replace h := of_decide_eq_true h) | with_reducible (replace h := of_decide_eq_false h) | with_reducible (replace h := bnt h) | with_reducible (replace h := bnf h) | with_reducible (replace h := Int.not_lt.mp h) | with_reducible (replace h := Int.not_le.mp h) | with_reducible (replace h := band_dec h) | with_reducible (replace h := band_decF h) | with_reducible (replace h := bor_dec h) | with_reducible (replace h := bor_decF h)))) <;> (try (exfalso; first | contradiction | omega))) | fail)
    refine T_loop (X := Nat) (fun k => [(78, .int .i64 (k : Nat)), (77, .int .i64 cs.length), (76, .slice A1 cs.length c1), (7, .pointer (some ⟨gl, 0, none⟩))]) (fun k => [entBlk gl 220 #[.slice A1 cs.length c1, .slice PA (valL cs k).length pc], entOwn Cl.enc 7 43 A1 c1 cs, entOwn Rvl.enc 3 224 PA pc (valL cs k)]) (fun k => k ≤ cs.length) (fun k => cs.length - k) 0 (by omega) (by (repeat (first | exact SubE.nil _ | refine SubE.cons rfl ?_))) (fun w' hw => hw.sel (by (repeat (first | exact Sel.nil _ | (apply Sel.cons; (repeat (first | with_reducible exact Pick.here _ _ | with_reducible apply Pick.there))))))) ?_
    intro k hk
    have hvl := valL_len cs k
    have hvl1 : (valL cs (k + 1)).length = (valL cs k).length := by rw [valL_len, valL_len]
    by_cases hkl2 : k < cs.length
    · have hck := clK_eq hkl2
      have hfd := valL_find hok k cs[k].res
      have hsame := valL_same (cs := cs) k
      have hset := fun q (hq : q < (keyQ cs).length) => valL_set (cs := cs) (k := k) (q := q) hq
      have hget := fun q (hq : q < (valL cs k).length) => valL_get (cs := cs) (k := k) hq
      have hig : ∀ v : Int, isGot cs v k = (decide (cs[k].kind = 4) && decide (cs[k].res = v)) := fun v => by unfold isGot; rw [hck]
      rw [hck] at hset
      refine T_own (enc := Cl.enc) (ls := cs) (by first | ((repeat (first | with_reducible exact List.mem_cons_self | with_reducible apply List.mem_cons_of_mem)); done) | (repeat (first | exact List.Mem.head _ | apply List.Mem.tail))) (by omega) ?_
      rintro gC rfl
      rcases hfd with ⟨hneg, hfn⟩ | ⟨hpos, q, hqk, hqv, hqmin, hquni⟩
      · have hsm := hsame fun v hv => .inl (by
          rw [hig]
          have h2 := (keyQ_mem.1 hv).2
          have h3 : ¬ cs[k].res = (v : Int) := fun e => by rw [e] at hneg; omega
          simp [h3])
        clear hset hsame hget
        generalize valL cs k = vs at *
        repeat' (first | ((first | with_reducible (first | apply TL_q | apply TD_q0 | apply TD_q1 | apply TD_q2 | apply TD_q3) | ((with_reducible (first | apply TD_q0y | apply TD_q1y)); exact rfl; exact rfl; (with_reducible exact rfl))); (first | ((with_reducible apply QS_neqPS); exact rfl; exact rfl) | ((with_reducible apply QS_neqPZ); exact rfl; exact rfl) | ((with_reducible apply QS_eqlPS); exact rfl; exact rfl) | ((with_reducible apply QS_eqlPZ); exact rfl; exact rfl) | exact QS.auto); exact rfl) | (refine GO ?_) | (refine GOE ?_; (first | (rintro _ _ ⟨rfl, rfl⟩) | (rintro _ _ ⟨g, rfl, rfl⟩) | (rintro _ _ ⟨A', c', rfl, rfl⟩))) | ((refine GO2 ?_ ?_) <;> intro h <;> (try (repeat (first | with_reducible (replace h := of_decide_eq_true h) | with_reducible (replace h := of_decide_eq_false h) | with_reducible (replace h := bnt h) | with_reducible (replace h := bnf h) | with_reducible (replace h := Int.not_lt.mp h) | with_reducible (replace h := Int.not_le.mp h) | with_reducible (replace h := band_dec h) | with_reducible (replace h := band_decF h) | with_reducible (replace h := bor_dec h) | with_reducible (replace h := bor_decF h)))) <;> (try (exfalso; first | contradiction | omega))) | ((with_reducible (first | apply TD_e2z | apply TD_e3z | apply TL_e | apply TD_e2 | apply TD_e3)); ((with_reducible apply ES_callV (f := 115)); exact rfl; (intro w hw; exact find_no gl (some ⟨gC, 0, none⟩) PA cs.length c1 pc vs cs[k].res w (hw.theBlk (by first | ((repeat (first | with_reducible exact List.mem_cons_self | with_reducible apply List.mem_cons_of_mem)); done) | (repeat (first | exact List.Mem.head _ | apply List.Mem.tail)))) (hw.ownRd (by first | ((repeat (first | with_reducible exact List.mem_cons_self | with_reducible apply List.mem_cons_of_mem)); done) | (repeat (first | exact List.Mem.head _ | apply List.Mem.tail))) (fun _ => rfl)) (by omega) hfn); exact rfl); (first | exact rfl | exact ⟨rfl, rfl, rfl⟩); (rintro _ _ ⟨rfl, rfl⟩); (try refine ⟨SUB, ?_⟩)) | fail)
        all_goals
          apply At_rounds (k + 1)
          case hE => (try dsimp only); (repeat (first | exact SubE.nil _ | refine SubE.cons rfl ?_))
          case hS => (try dsimp only); rw [hsm]; exact fun w' hw => hw.sel (by (repeat (first | exact Sel.nil _ | (apply Sel.cons; (repeat (first | with_reducible exact Pick.here _ _ | with_reducible apply Pick.there))))))
          case hμ => (try dsimp only); omega
          case hp => (try dsimp only); omega
      · have hq : q < (valL cs k).length := by rw [hvl]; exact hqk
        have hgq := hget q hq
        have hqn : ((valL cs k).getD q default).n = cs[k].res := by
          rw [List.getD_eq_getElem?_getD, List.getElem?_eq_getElem hq, Option.getD_some, hgq]
          exact hqv
        have hqm : ∀ j, j < q → ((valL cs k).getD j default).n ≠ cs[k].res := fun j hj => by
          have hj2 : j < (valL cs k).length := by omega
          rw [List.getD_eq_getElem?_getD, List.getElem?_eq_getElem hj2, Option.getD_some, hget j hj2]
          exact hqmin j hj
        have hdq : (valL cs k)[q].deq = gotK cs ((keyQ cs)[q] : Nat) k := by rw [hgq]; rfl
        have hnq : (valL cs k)[q].n = ((keyQ cs)[q] : Nat) := by rw [hgq]; rfl
        have heq : (valL cs k)[q].enq = putBy cs ((keyQ cs)[q] : Nat) := by rw [hgq]; rfl
        refine T_own (enc := Rvl.enc) (ls := valL cs k) (by first | ((repeat (first | with_reducible exact List.mem_cons_self | with_reducible apply List.mem_cons_of_mem)); done) | (repeat (first | exact List.Mem.head _ | apply List.Mem.tail))) (by omega) ?_
        rintro gV rfl
        by_cases hdo : cs[k].kind = 4 ∧ gotK cs ((keyQ cs)[q] : Nat) k < 0
        · have hst := hset q hqk hdo.1 hqv.symm hdo.2
          have hst2 : valL cs (k + 1) = (valL cs k).set q ⟨(valL cs k)[q].n, (valL cs k)[q].enq, (k : Int)⟩ := by rw [hst, hnq, heq]
          obtain ⟨hd1, hd2⟩ := hdo
          rw [← hdq] at hd2
          clear hst hset hsame hget hqmin hquni hgq hdq heq hqv hqk hnq
          generalize valL cs k = vs at *
          repeat' (first | ((first | with_reducible (first | apply TL_q | apply TD_q0 | apply TD_q1 | apply TD_q2 | apply TD_q3) | ((with_reducible (first | apply TD_q0y | apply TD_q1y)); exact rfl; exact rfl; (with_reducible exact rfl))); (first | ((with_reducible apply QS_neqPS); exact rfl; exact rfl) | ((with_reducible apply QS_neqPZ); exact rfl; exact rfl) | ((with_reducible apply QS_eqlPS); exact rfl; exact rfl) | ((with_reducible apply QS_eqlPZ); exact rfl; exact rfl) | exact QS.auto); exact rfl) | (refine GO ?_) | (refine GOE ?_; (first | (rintro _ _ ⟨rfl, rfl⟩) | (rintro _ _ ⟨g, rfl, rfl⟩) | (rintro _ _ ⟨A', c', rfl, rfl⟩))) | ((refine GO2 ?_ ?_) <;> intro h <;> (try (repeat (first | with_reducible (replace h := of_decide_eq_true h) | with_reducible (replace h := of_decide_eq_false h) | with_reducible (replace h := bnt h) | with_reducible (replace h := bnf h) | with_reducible (replace h := Int.not_lt.mp h) | with_reducible (replace h := Int.not_le.mp h) | with_reducible (replace h := band_dec h) | with_reducible (replace h := band_decF h) | with_reducible (replace h := bor_dec h) | with_reducible (replace h := bor_decF h)))) <;> (try (exfalso; first | contradiction | omega))) | ((with_reducible (first | apply TD_e2z | apply TD_e3z | apply TL_e | apply TD_e2 | apply TD_e3)); ((with_reducible apply ES_callV (f := 115)); exact rfl; (intro w hw; exact find_yes0 gl (some ⟨gC, 0, none⟩) (some ⟨gV, 0, none⟩) cs.length c1 pc vs cs[k].res w (hw.theBlk (by first | ((repeat (first | with_reducible exact List.mem_cons_self | with_reducible apply List.mem_cons_of_mem)); done) | (repeat (first | exact List.Mem.head _ | apply List.Mem.tail)))) (hw.ownRd (by first | ((repeat (first | with_reducible exact List.mem_cons_self | with_reducible apply List.mem_cons_of_mem)); done) | (repeat (first | exact List.Mem.head _ | apply List.Mem.tail))) (fun _ => rfl)) (by omega) q hq hqn hqm gV rfl); exact rfl); (first | exact rfl | exact ⟨rfl, rfl, rfl⟩); (rintro _ _ ⟨rfl, rfl⟩); (try refine ⟨SUB, ?_⟩)) | ((with_reducible (first | apply TD_e2z | apply TD_e3z | apply TL_e | apply TD_e2 | apply TD_e3)); ((with_reducible apply ES_storeOwn (enc := Rvl.enc) (xx := ⟨vs[q].n, vs[q].enq, (k : Int)⟩)); exact rfl; exact rfl; (first | ((repeat (first | with_reducible exact Upd.here _ _ _ | with_reducible apply Upd.there)); done) | (repeat (first | exact Upd.here _ _ _ | apply Upd.there))); exact fun _ => rfl; exact List.getElem?_eq_getElem hq; decide; exact rfl; exact rfl); (first | exact rfl | exact ⟨rfl, rfl, rfl⟩); (rintro _ _ ⟨rfl, rfl⟩); (try refine ⟨SUB, ?_⟩)) | fail)
          all_goals first
            | (exfalso; omega)
            | (apply At_rounds (k + 1); (case hE => (try dsimp only); (repeat (first | exact SubE.nil _ | refine SubE.cons rfl ?_))); (case hS => (try dsimp only); rw [hst2, List.length_set]; exact fun w' hw => hw.sel (by (repeat (first | exact Sel.nil _ | (apply Sel.cons; (repeat (first | with_reducible exact Pick.here _ _ | with_reducible apply Pick.there))))))); (case hμ => (try dsimp only); omega); (case hp => (try dsimp only); omega))
        · have hsm := hsame fun v hv => by
            rw [hig]
            by_cases h4 : cs[k].kind = 4
            · by_cases hrv : cs[k].res = (v : Int)
              · right
                have hv2 : v = (keyQ cs)[q] := by omega
                rw [hv2]
                have := fun h => hdo ⟨h4, h⟩
                omega
              · left; simp [hrv]
            · left; simp [h4]
          have hnd : ¬ (cs[k].kind = 4 ∧ (valL cs k)[q].deq < 0) := by rw [hdq]; exact hdo
          clear hset hsame hget hqmin hquni hgq hdq heq hqv hqk hnq hdo
          generalize valL cs k = vs at *
          repeat' (first | ((first | with_reducible (first | apply TL_q | apply TD_q0 | apply TD_q1 | apply TD_q2 | apply TD_q3) | ((with_reducible (first | apply TD_q0y | apply TD_q1y)); exact rfl; exact rfl; (with_reducible exact rfl))); (first | ((with_reducible apply QS_neqPS); exact rfl; exact rfl) | ((with_reducible apply QS_neqPZ); exact rfl; exact rfl) | ((with_reducible apply QS_eqlPS); exact rfl; exact rfl) | ((with_reducible apply QS_eqlPZ); exact rfl; exact rfl) | exact QS.auto); exact rfl) | (refine GO ?_) | (refine GOE ?_; (first | (rintro _ _ ⟨rfl, rfl⟩) | (rintro _ _ ⟨g, rfl, rfl⟩) | (rintro _ _ ⟨A', c', rfl, rfl⟩))) | ((refine GO2 ?_ ?_) <;> intro h <;> (try (repeat (first | with_reducible (replace h := of_decide_eq_true h) | with_reducible (replace h := of_decide_eq_false h) | with_reducible (replace h := bnt h) | with_reducible (replace h := bnf h) | with_reducible (replace h := Int.not_lt.mp h) | with_reducible (replace h := Int.not_le.mp h) | with_reducible (replace h := band_dec h) | with_reducible (replace h := band_decF h) | with_reducible (replace h := bor_dec h) | with_reducible (replace h := bor_decF h)))) <;> (try (exfalso; first | contradiction | omega))) | ((with_reducible (first | apply TD_e2z | apply TD_e3z | apply TL_e | apply TD_e2 | apply TD_e3)); ((with_reducible apply ES_callV (f := 115)); exact rfl; (intro w hw; exact find_yes0 gl (some ⟨gC, 0, none⟩) (some ⟨gV, 0, none⟩) cs.length c1 pc vs cs[k].res w (hw.theBlk (by first | ((repeat (first | with_reducible exact List.mem_cons_self | with_reducible apply List.mem_cons_of_mem)); done) | (repeat (first | exact List.Mem.head _ | apply List.Mem.tail)))) (hw.ownRd (by first | ((repeat (first | with_reducible exact List.mem_cons_self | with_reducible apply List.mem_cons_of_mem)); done) | (repeat (first | exact List.Mem.head _ | apply List.Mem.tail))) (fun _ => rfl)) (by omega) q hq hqn hqm gV rfl); exact rfl); (first | exact rfl | exact ⟨rfl, rfl, rfl⟩); (rintro _ _ ⟨rfl, rfl⟩); (try refine ⟨SUB, ?_⟩)) | fail)
          all_goals first
            | (exfalso; omega)
            | (apply At_rounds (k + 1); (case hE => (try dsimp only); (repeat (first | exact SubE.nil _ | refine SubE.cons rfl ?_))); (case hS => (try dsimp only); rw [hsm]; exact fun w' hw => hw.sel (by (repeat (first | exact Sel.nil _ | (apply Sel.cons; (repeat (first | with_reducible exact Pick.here _ _ | with_reducible apply Pick.there))))))); (case hμ => (try dsimp only); omega); (case hp => (try dsimp only); omega))
    · obtain rfl : k = cs.length := by omega
      repeat' (first | ((first | with_reducible (first | apply TL_q | apply TD_q0 | apply TD_q1 | apply TD_q2 | apply TD_q3) | ((with_reducible (first | apply TD_q0y | apply TD_q1y)); exact rfl; exact rfl; (with_reducible exact rfl))); (first | ((with_reducible apply QS_neqPS); exact rfl; exact rfl) | ((with_reducible apply QS_neqPZ); exact rfl; exact rfl) | ((with_reducible apply QS_eqlPS); exact rfl; exact rfl) | ((with_reducible apply QS_eqlPZ); exact rfl; exact rfl) | exact QS.auto); exact rfl) | (refine GO ?_) | (refine GOE ?_; (first | (rintro _ _ ⟨rfl, rfl⟩) | (rintro _ _ ⟨g, rfl, rfl⟩) | (rintro _ _ ⟨A', c', rfl, rfl⟩))) | ((refine GO2 ?_ ?_) <;> intro h <;> (try (repeat (first | with_reducible (replace h := of_decide_eq_true h) | with_reducible (replace h := of_decide_eq_false h) | with_reducible (replace h := bnt h) | with_reducible (replace h := bnf h) | with_reducible (replace h := Int.not_lt.mp h) | with_reducible (replace h := Int.not_le.mp h) | with_reducible (replace h := band_dec h) | with_reducible (replace h := band_decF h) | with_reducible (replace h := bor_dec h) | with_reducible (replace h := bor_decF h)))) <;> (try (exfalso; first | contradiction | omega))) | fail)
      (refine At_ret Try.results65 rfl (fun w' hw => ?_))
      exact ⟨⟨gl, A1, c1, PA, pc⟩, rfl, (hw.anyN 0).sel (by (repeat (first | exact Sel.nil _ | (apply Sel.cons; (repeat (first | with_reducible exact Pick.here _ _ | with_reducible apply Pick.there))))))⟩
end
end Go.Proofs.Ytbhjljnbjomnhaa
