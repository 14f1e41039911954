/- The law BagsSay: Part and Check answer what the document says. No condition. -/
import Derived.Test.YtaonijdhmgcbjaaG24
set_option linter.unusedSimpArgs false
set_option linter.unusedVariables false
set_option linter.unusedSectionVars false
set_option linter.unnecessarySimpa false
namespace Go.Proofs.Ytaonijdhmgcbjaa
open Go.RowKit
set_option linter.unusedSectionVars false

section
variable (O : List Cl) (gN g4 : Nat) (A6 : Option Addr) (c6 : Nat) (ht : typesOk [4] = true) (hc : CallsOk [4] O) (hR : RelOk O (relAhead O)) (h9 : O.length ≤ 9)
include ht hc hR h9
theorem leastBag_any (C : Ctx) (R : List Ent) (w : World) (hw : Mem C w ([entOwn Stp.enc 2 125 (some ⟨gN, 0, none⟩) 0 []] ++ R)) (h4 : entBlk g4 3 #[.int .i64 4] ∈ R) (hO : entOwn Cl.enc 7 107 A6 c6 O ∈ R) :
    Calls Try.prog 23 #[.slice (some ⟨g4, 0, none⟩) 1 1, .slice A6 O.length c6, .agg (relCells O.length (relAhead O)), .slice (some ⟨gN, 0, none⟩) 0 0] w fun e W' => ∃ x : Addr × Nat,
      e = .returned (outV (foundS [4] O (relAhead O)) x) ∧ Mem ⟨0, blks [entOwn Stp.enc 2 125 (some ⟨gN, 0, none⟩) 0 []], w⟩ W' (outS (foundS [4] O (relAhead O)) x) := by
  have hfo : foundS [4] O (relAhead O) = srchR [4] O (relAhead O) O.length [] := srch_CR hR _ closed_nil
  rw [hfo]
  have hgood := good_nil (cs := O) (f := relAhead O) ht
  have haw : ∀ e ∈ R, ∀ (A : Option Addr), (∀ b o, A = some ⟨b, o, none⟩ → e.has b) → Away A (blks [entOwn Stp.enc 2 125 (some ⟨gN, 0, none⟩) 0 []]) := fun e he A h b o hb hm => by
    obtain ⟨e1, he1, hg⟩ := mem_blks.1 hm
    exact (List.pairwise_append.1 hw.apart).2.2 e1 he1 e he b hg (h b o hb)
  refine least_all (some ⟨g4, 0, none⟩) A6 1 c6 [4] O O.length (relAhead O) ht hc h9 hR O.length [] (some ⟨gN, 0, none⟩) 0 w 0 hgood (by simp [maskW, unset_0]) (RdInt.of_list (l := [4]) (hw.theBlk (List.mem_append_right _ h4))) (hw.ownRd (et := 107) (c := c6) (List.mem_append_right _ hO) (fun _ => rfl)) (fun e => by cases e) (haw _ h4 _ fun b o e => ?_) (fun _ => haw _ hO _ fun b o e => ?_) (hw.self 0)
  · cases e; exact rfl
  · show (Value.slice A6 O.length c6).ownBlock = some b
    rw [e]; rfl
end
theorem bigB_none {cs : List Cl} (harg : ∀ c ∈ cs, 1 ≤ c.arg ∧ c.arg ≤ 1000) (h : ∀ u : Nat, 1 ≤ u → u < 1001 → (cs.filter (bagA (u : Nat))).length ≤ 9) : bigB cs = false := by
  unfold bigB
  rw [List.any_eq_false]
  intro c hc h9
  rw [decide_eq_true_eq] at h9
  have h1 := harg c hc
  have h2 := h c.arg.toNat (by omega) (by omega)
  rw [show ((c.arg.toNat : Nat) : Int) = c.arg by omega] at h2
  omega
theorem bigB_some {cs : List Cl} {v : Int} (h : 9 < (cs.filter (bagA v)).length) : bigB cs = true := by
  obtain ⟨c, hc⟩ := List.exists_mem_of_length_pos (Nat.lt_of_lt_of_le (by decide : 0 < 9) (Nat.le_of_lt h))
  rw [List.mem_filter] at hc
  have h3 : c.arg = v := by have := hc.2; unfold bagA at this; exact of_decide_eq_true this
  unfold bigB
  rw [List.any_eq_true]
  exact ⟨c, hc.1, by rw [h3]; exact decide_eq_true h⟩
section
variable (B0 : Option Addr) (d0 : Nat) (l : List Ev) (n : Int) (w : World) (hl : l.length ≤ 9223372036854775807) (hA : RdEv w B0 l)
include hl hA
set_option maxRecDepth 100000 in
set_option maxHeartbeats 8000000 in
theorem bagsSay_any : Calls Try.prog 5 #[.slice B0 l.length d0, .int .i64 n] w fun e w' => e = .returned (.bool true) ∧ Below w.heap.size w w' := by
  have hpt := fun w h => bPart_any B0 d0 l n w hl h
  have hck := fun w h => bCheck_any B0 d0 l w hl h
  have hco := fun T c w h1 h2 => callsOf_any T B0 c d0 [4] l w (by decide) hl h1 h2
  have hin := callsR_inv (ts := [4]) (l := l)
  have harg := bag_arg (l := l)
  have hown := fun n h0 h9 => bag_own (l := l) (n := n) h0 h9
  have hcl := callsR_len [4] l
  unfold bcR at hck
  have hbpE : bpE l n = if (callsR [4] l).2.2 ≠ 0 then (callsR [4] l).2.2 else if n < 1 ∨ 1000 < n then 1 else 0 := rfl
  have hbcE : bcE l = if (callsR [4] l).2.2 ≠ 0 then (callsR [4] l).2.2 else if bigB (callsR [4] l).1 = true then 2 else 0 := rfl
  have hbpR : bpR l n = if bpE l n = 0 then keepL l (bagP l n) l.length else [] := rfl
  obtain ⟨cs, y, z, hcr⟩ : ∃ cs y z, callsR [4] l = (cs, y, z) := ⟨_, _, _, rfl⟩
  rw [hcr] at hco hin harg hown hcl hck hbpE hbcE
  dsimp only at hco hin harg hown hcl hck hbpE hbcE
  clear hcr
  refine calls_T (S := []) [] Try.func5 rfl Try.ntmps5 (by simp) (Mem.nil _) ?_
  have heq0 := fun A c w => equalEv_any A none c 0 [] [] w (by simp) (by simp) (RdE.nil _) (RdE.nil _)
  rw [decide_eq_true rfl] at heq0
  by_cases hz : z = 0
  · subst hz
    rw [if_neg (show ¬ ((0 : Int) ≠ 0) by decide)] at hbpE hbcE
    rw [hbcE] at hck
    obtain ⟨_, h200, hv, hcs⟩ := hin rfl
    have harg := harg rfl
    have hown := fun n h => hown n rfl h
    have hone := one_at (ts := [4]) (n := n) hv l.length (Nat.le_refl _)
    rw [← hcs] at hone
    have hbk := bagEv_keep hone l.length (Nat.le_refl _)
    have hbig0 := bigB_none harg
    have hbig1 := fun v h => bigB_some (cs := cs) (v := v) h
    have hss := bcL_succ cs
    have hsl := bcL_len cs
    have hkl : (keepL l (bagP l n) l.length).length ≤ 200 := by rw [keepL_len]; have := rankP_le (bagP l n) l.length; omega
    obtain ⟨BL, hBL⟩ : ∃ BL, BL = if (if bigB cs = true then (2 : Int) else 0) = 0 then bcL cs 1001 else [] := ⟨_, rfl⟩
    rw [← hBL] at hck
    have hBLl : BL.length ≤ 1001 := by rw [hBL]; (split <;> split) <;> first | exact hsl 1001 | simp
    clear hin hcs hv hone harg
    by_cases hn : n < 1 ∨ 1000 < n
    · rw [if_pos hn] at hbpE
      rw [if_neg (by omega)] at hbpR
      rw [hbpE, hbpR] at hpt
      have hn1 : (decide (1 ≤ n) && decide (n ≤ 1000)) = false := by
        rw [Bool.and_eq_false_iff, decide_eq_false_iff_not, decide_eq_false_iff_not]; omega
      repeat' (first | ((first | with_reducible (first | apply TL_q | apply TD_q0 | apply TD_q1 | apply TD_q2 | apply TD_q3) | ((with_reducible (first | apply TD_q0y | apply TD_q1y)); exact rfl; exact rfl; (with_reducible exact rfl))); (first | ((with_reducible apply QS_eqlNil); exact rfl; exact rfl) | exact QS.auto); exact rfl) | (refine GO ?_) | (refine GOE ?_; (first | (rintro _ _ ⟨rfl, rfl⟩) | (rintro _ _ ⟨g, rfl, rfl⟩) | (rintro _ _ ⟨A', c', rfl, rfl⟩))) | ((refine GO2 ?_ ?_) <;> intro h <;> (try (repeat (first | with_reducible (replace h := of_decide_eq_true h) | with_reducible (replace h := of_decide_eq_false h) | with_reducible (replace h := bnt h) | with_reducible (replace h := bnf h) | with_reducible (replace h := Int.not_lt.mp h) | with_reducible (replace h := Int.not_le.mp h) | with_reducible (replace h := band_dec h) | with_reducible (replace h := band_decF h) | with_reducible (replace h := bor_dec h) | with_reducible (replace h := bor_decF h)))) <;> (try (exfalso; first | contradiction | omega))) | ((with_reducible (first | apply TD_e2z | apply TD_e3z | apply TL_e | apply TD_e2 | apply TD_e3)); ((with_reducible apply ES_callOwn (f := 17)); exact rfl; (intro w hw; exact hpt w (hw.rd rfl hA)); exact rfl); (first | exact rfl | exact ⟨rfl, rfl, rfl⟩); (rintro _ _ ⟨A1, c1, rfl, rfl⟩); (try refine ⟨SUB, ?_⟩)) | ((with_reducible (first | apply TD_e2z | apply TD_e3z | apply TL_e | apply TD_e2 | apply TD_e3)); ((with_reducible apply ES_callOwn (f := 18)); exact rfl; (intro w hw; exact hck w (hw.rd rfl hA)); exact rfl); (first | exact rfl | exact ⟨rfl, rfl, rfl⟩); (rintro _ _ ⟨A2, c2, rfl, rfl⟩); (try refine ⟨SUB, ?_⟩)) | ((with_reducible (first | apply TD_e2z | apply TD_e3z | apply TL_e | apply TD_e2 | apply TD_e3)); ((with_reducible apply ES_callOwn (f := 19)); exact rfl; (intro w hw; exact hco _ 1 w (RdInt.of_list (l := [4]) (hw.theBlk (by first | ((repeat (first | with_reducible exact List.mem_cons_self | with_reducible apply List.mem_cons_of_mem)); done) | (repeat (first | exact List.Mem.head _ | apply List.Mem.tail))))) (hw.rd rfl hA)); exact rfl); (first | exact rfl | exact ⟨rfl, rfl, rfl⟩); (rintro _ _ ⟨A3, c3, rfl, rfl⟩); (try refine ⟨SUB, ?_⟩)) | ((with_reducible (first | apply TD_e2z | apply TD_e3z | apply TL_e | apply TD_e2 | apply TD_e3)); ((with_reducible apply ES_callV (f := 20)); exact rfl; (intro w hw; exact between_B _ _ _ _); exact rfl); (first | exact rfl | exact ⟨rfl, rfl, rfl⟩); (rintro _ _ ⟨rfl, rfl⟩); (try refine ⟨SUB, ?_⟩)) | ((with_reducible (first | apply TD_e2z | apply TD_e3z | apply TL_e | apply TD_e2 | apply TD_e3)); ((with_reducible apply ES_callV (f := 9)); exact rfl; (intro w hw; exact heq0 _ _ w); exact rfl); (first | exact rfl | exact ⟨rfl, rfl, rfl⟩); (rintro _ _ ⟨rfl, rfl⟩); (try refine ⟨SUB, ?_⟩)) | fail)
      all_goals first | (exfalso; omega) | skip
      refine T_loop (X := Nat × Option Addr × Nat × Int × List Int) (fun x => [(15, .int .i64 (x.1 : Nat)), (14, .slice x.2.1 x.2.2.2.2.length x.2.2.1), (11, .int .i64 x.2.2.2.1), (9, .slice A3 cs.length c3), (8, .int .i64 (if bigB cs = true then 2 else 0)), (7, .slice A2 BL.length c2)]) (fun x => [entOwn intEnc 1 3 x.2.1 x.2.2.1 x.2.2.2.2, entOwn Cl.enc 7 107 A3 c3 cs, entOwn intEnc 1 3 A2 c2 BL])
        (fun x => 1 ≤ x.1 ∧ x.1 ≤ 1001 ∧ ((x.2.2.2.1 = 0 ∧ x.2.2.2.2 = bcL cs x.1 ∧ ∀ u : Nat, 1 ≤ u → u < x.1 → (cs.filter (bagA (u : Nat))).length ≤ 9) ∨ (x.2.2.2.1 = 2 ∧ bigB cs = true))) (fun x => 1001 - x.1) (1, none, 0, 0, []) ⟨by (try dsimp only); omega, by (try dsimp only); omega, .inl ⟨rfl, rfl, fun u h1 h2 => by (try dsimp only at h2); omega⟩⟩ (by (try dsimp only); (repeat (first | exact SubE.nil _ | refine SubE.cons rfl ?_))) (fun w' hw => by (try dsimp only); exact (hw.nilOwn intEnc 1 3).sel (by (repeat (first | exact Sel.nil _ | (apply Sel.cons; (repeat (first | with_reducible exact Pick.here _ _ | with_reducible apply Pick.there))))))) ?_
      rintro ⟨v, AL, cL, ri, L⟩ ⟨hv1, hv2, hst⟩
      dsimp only at hv1 hv2 hst ⊢
      rcases hst with ⟨hri, hL, hfew⟩ | ⟨hri, hbg⟩
      · subst hri
        by_cases hvl : v < 1001
        · have hbv := fun w h => bagCalls_any A3 c3 cs w hcl h (v : Nat)
          have hs := hss v
          have hLl : L.length ≤ v := by rw [hL]; exact hsl v
          have hi1 : inbB cs (v : Nat) = (decide (0 < (cs.filter (bagA (v : Nat))).length) && (foundS [4] (cs.filter (bagA (v : Nat))) (relAhead (cs.filter (bagA (v : Nat))))).isNone) := rfl
          rw [← hL, decide_eq_true hv1, Bool.true_and, hi1] at hs
          have hbg := hbig1 (v : Nat)
          have hown := hown (v : Nat)
          have hnx : (cs.filter (bagA (v : Nat))).length ≤ 9 → ∀ u : Nat, 1 ≤ u → u < v + 1 → (cs.filter (bagA (u : Nat))).length ≤ 9 := fun h u h1 h2 => (Nat.lt_succ_iff_lt_or_eq.1 h2).elim (fun e => hfew u h1 e) (fun e => by subst e; exact h)
          have hlen : (cs.filter (bagA (v : Nat))).length ≤ 200 := Nat.le_trans (List.length_filter_le _ _) hcl
          clear hfew hss hsl hbig0 hbig1 hi1 hbk heq0 hpt hck hco hL
          generalize cs.filter (bagA (v : Nat)) = O at *
          by_cases hO9 : 9 < O.length
          · have hb := hbg hO9
            repeat' (first | ((first | with_reducible (first | apply TL_q | apply TD_q0 | apply TD_q1 | apply TD_q2 | apply TD_q3) | ((with_reducible (first | apply TD_q0y | apply TD_q1y)); exact rfl; exact rfl; (with_reducible exact rfl))); (first | ((with_reducible apply QS_eqlNil); exact rfl; exact rfl) | exact QS.auto); exact rfl) | (refine GO ?_) | (refine GOE ?_; (first | (rintro _ _ ⟨rfl, rfl⟩) | (rintro _ _ ⟨g, rfl, rfl⟩) | (rintro _ _ ⟨A', c', rfl, rfl⟩))) | ((refine GO2 ?_ ?_) <;> intro h <;> (try (repeat (first | with_reducible (replace h := of_decide_eq_true h) | with_reducible (replace h := of_decide_eq_false h) | with_reducible (replace h := bnt h) | with_reducible (replace h := bnf h) | with_reducible (replace h := Int.not_lt.mp h) | with_reducible (replace h := Int.not_le.mp h) | with_reducible (replace h := band_dec h) | with_reducible (replace h := band_decF h) | with_reducible (replace h := bor_dec h) | with_reducible (replace h := bor_decF h)))) <;> (try (exfalso; first | contradiction | omega))) | ((with_reducible (first | apply TD_e2z | apply TD_e3z | apply TL_e | apply TD_e2 | apply TD_e3)); ((with_reducible apply ES_callOwn (f := 22)); exact rfl; (intro w hw; exact hbv w (hw.ownRd (by first | ((repeat (first | with_reducible exact List.mem_cons_self | with_reducible apply List.mem_cons_of_mem)); done) | (repeat (first | exact List.Mem.head _ | apply List.Mem.tail))) (fun _ => rfl))); exact rfl); (first | exact rfl | exact ⟨rfl, rfl, rfl⟩); (rintro _ _ ⟨A6, c6, rfl, rfl⟩); (try refine ⟨SUB, ?_⟩)) | fail)
            all_goals first
              | (exfalso; omega)
              | (apply At_rounds (v + 1, AL, cL, 2, L); (case hE => (try dsimp only); (repeat (first | exact SubE.nil _ | refine SubE.cons rfl ?_))); (case hS => (try dsimp only); exact fun w' hw => hw.sel (by (repeat (first | exact Sel.nil _ | (apply Sel.cons; (repeat (first | with_reducible exact Pick.here _ _ | with_reducible apply Pick.there))))))); (case hμ => (try dsimp only); omega); (case hp => exact ⟨by (try dsimp only); omega, by (try dsimp only); omega, .inr ⟨rfl, hb⟩⟩))
          · have hnx := hnx (by omega)
            obtain ⟨ht, hc, hR⟩ := hown (by omega)
            by_cases hO0 : O.length = 0
            · rw [hO0, decide_eq_false (by decide), Bool.false_and, if_neg (by decide)] at hs
              repeat' (first | ((first | with_reducible (first | apply TL_q | apply TD_q0 | apply TD_q1 | apply TD_q2 | apply TD_q3) | ((with_reducible (first | apply TD_q0y | apply TD_q1y)); exact rfl; exact rfl; (with_reducible exact rfl))); (first | ((with_reducible apply QS_eqlNil); exact rfl; exact rfl) | exact QS.auto); exact rfl) | (refine GO ?_) | (refine GOE ?_; (first | (rintro _ _ ⟨rfl, rfl⟩) | (rintro _ _ ⟨g, rfl, rfl⟩) | (rintro _ _ ⟨A', c', rfl, rfl⟩))) | ((refine GO2 ?_ ?_) <;> intro h <;> (try (repeat (first | with_reducible (replace h := of_decide_eq_true h) | with_reducible (replace h := of_decide_eq_false h) | with_reducible (replace h := bnt h) | with_reducible (replace h := bnf h) | with_reducible (replace h := Int.not_lt.mp h) | with_reducible (replace h := Int.not_le.mp h) | with_reducible (replace h := band_dec h) | with_reducible (replace h := band_decF h) | with_reducible (replace h := bor_dec h) | with_reducible (replace h := bor_decF h)))) <;> (try (exfalso; first | contradiction | omega))) | ((with_reducible (first | apply TD_e2z | apply TD_e3z | apply TL_e | apply TD_e2 | apply TD_e3)); ((with_reducible apply ES_callOwn (f := 22)); exact rfl; (intro w hw; exact hbv w (hw.ownRd (by first | ((repeat (first | with_reducible exact List.mem_cons_self | with_reducible apply List.mem_cons_of_mem)); done) | (repeat (first | exact List.Mem.head _ | apply List.Mem.tail))) (fun _ => rfl))); exact rfl); (first | exact rfl | exact ⟨rfl, rfl, rfl⟩); (rintro _ _ ⟨A6, c6, rfl, rfl⟩); (try refine ⟨SUB, ?_⟩)) | fail)
              all_goals first
                | (exfalso; omega)
                | (apply At_rounds (v + 1, AL, cL, 0, L); (case hE => (try dsimp only); (repeat (first | exact SubE.nil _ | refine SubE.cons rfl ?_))); (case hS => (try dsimp only); exact fun w' hw => hw.sel (by (repeat (first | exact Sel.nil _ | (apply Sel.cons; (repeat (first | with_reducible exact Pick.here _ _ | with_reducible apply Pick.there))))))); (case hμ => (try dsimp only); omega); (case hp => exact ⟨by (try dsimp only); omega, by (try dsimp only); omega, .inl ⟨rfl, hs.symm, hnx⟩⟩))
            · have hcr := fun A c w h => callRel_any A c O w h (by omega)
              rw [decide_eq_true (show 0 < O.length by omega), Bool.true_and] at hs
              have hlb := fun gN g4 A6 c6 => leastBag_any O gN g4 A6 c6 ht hc hR (by omega)
              generalize foundS [4] O (relAhead O) = o at *
              repeat' (first | ((first | with_reducible (first | apply TL_q | apply TD_q0 | apply TD_q1 | apply TD_q2 | apply TD_q3) | ((with_reducible (first | apply TD_q0y | apply TD_q1y)); exact rfl; exact rfl; (with_reducible exact rfl))); (first | ((with_reducible apply QS_eqlNil); exact rfl; exact rfl) | exact QS.auto); exact rfl) | (refine GO ?_) | (refine GOE ?_; (first | (rintro _ _ ⟨rfl, rfl⟩) | (rintro _ _ ⟨g, rfl, rfl⟩) | (rintro _ _ ⟨A', c', rfl, rfl⟩))) | ((refine GO2 ?_ ?_) <;> intro h <;> (try (repeat (first | with_reducible (replace h := of_decide_eq_true h) | with_reducible (replace h := of_decide_eq_false h) | with_reducible (replace h := bnt h) | with_reducible (replace h := bnf h) | with_reducible (replace h := Int.not_lt.mp h) | with_reducible (replace h := Int.not_le.mp h) | with_reducible (replace h := band_dec h) | with_reducible (replace h := band_decF h) | with_reducible (replace h := bor_dec h) | with_reducible (replace h := bor_decF h)))) <;> (try (exfalso; first | contradiction | omega))) | ((with_reducible (first | apply TD_e2z | apply TD_e3z | apply TL_e | apply TD_e2 | apply TD_e3)); ((with_reducible apply ES_callOwn (f := 22)); exact rfl; (intro w hw; exact hbv w (hw.ownRd (by first | ((repeat (first | with_reducible exact List.mem_cons_self | with_reducible apply List.mem_cons_of_mem)); done) | (repeat (first | exact List.Mem.head _ | apply List.Mem.tail))) (fun _ => rfl))); exact rfl); (first | exact rfl | exact ⟨rfl, rfl, rfl⟩); (rintro _ _ ⟨A6, c6, rfl, rfl⟩); (try refine ⟨SUB, ?_⟩)) | ((with_reducible (first | apply TD_e2z | apply TD_e3z | apply TL_e | apply TD_e2 | apply TD_e3)); ((with_reducible apply ES_callV (f := 24)); exact rfl; (intro w hw; exact hcr A6 c6 w (hw.ownRd (by first | ((repeat (first | with_reducible exact List.mem_cons_self | with_reducible apply List.mem_cons_of_mem)); done) | (repeat (first | exact List.Mem.head _ | apply List.Mem.tail))) (fun _ => rfl))); exact rfl); (first | exact rfl | exact ⟨rfl, rfl, rfl⟩); (rintro _ _ ⟨rfl, rfl⟩); (try refine ⟨SUB, ?_⟩)) | ((with_reducible (first | apply TD_e2z | apply TD_e3z | apply TL_e | apply TD_e2 | apply TD_e3)); ((with_reducible apply ES_buildSlice0 Stp.enc); exact rfl); (first | exact rfl | exact ⟨rfl, rfl, rfl⟩); (rintro _ _ ⟨g, rfl, rfl⟩); (try refine ⟨SUB, ?_⟩)) | fail)
              all_goals first | (exfalso; omega) | skip
              obtain ⟨gN, rfl⟩ : ∃ x, x = g := ⟨_, rfl⟩
              obtain ⟨g4, rfl⟩ : ∃ x, x = g := ⟨_, rfl⟩
              have hih := fun C R w hw h4 hO => hlb gN g4 A6 c6 C R w hw h4 hO
              clear hlb hown hbg hcr hc hR
              cases o with
              | some r =>
                rw [if_neg (by simp)] at hs
                repeat' (first | ((first | with_reducible (first | apply TL_q | apply TD_q0 | apply TD_q1 | apply TD_q2 | apply TD_q3) | ((with_reducible (first | apply TD_q0y | apply TD_q1y)); exact rfl; exact rfl; (with_reducible exact rfl))); (first | ((with_reducible apply QS_eqlNil); exact rfl; exact rfl) | exact QS.auto); exact rfl) | (refine GO ?_) | (refine GOE ?_; (first | (rintro _ _ ⟨rfl, rfl⟩) | (rintro _ _ ⟨g, rfl, rfl⟩) | (rintro _ _ ⟨A', c', rfl, rfl⟩))) | ((refine GO2 ?_ ?_) <;> intro h <;> (try (repeat (first | with_reducible (replace h := of_decide_eq_true h) | with_reducible (replace h := of_decide_eq_false h) | with_reducible (replace h := bnt h) | with_reducible (replace h := bnf h) | with_reducible (replace h := Int.not_lt.mp h) | with_reducible (replace h := Int.not_le.mp h) | with_reducible (replace h := band_dec h) | with_reducible (replace h := band_decF h) | with_reducible (replace h := bor_dec h) | with_reducible (replace h := bor_decF h)))) <;> (try (exfalso; first | contradiction | omega))) | ((with_reducible (first | apply TD_e2z | apply TD_e3z | apply TL_e | apply TD_e2 | apply TD_e3)); ((with_reducible apply ES_callX (f := 23) (X := Addr × Nat) (S1 := [entOwn Stp.enc 2 125 (some ⟨gN, 0, none⟩) 0 []]) (outV (some r)) (outS (some r))); exact rfl; ((repeat (first | exact Pull.nil _ | (apply Pull.cons; (repeat (first | with_reducible exact Pick.here _ _ | with_reducible apply Pick.there)))))); (intro x; dsimp only [outS]; repeat (first | exact AppL.nil _ | apply AppL.cons)); (intro w' hw; exact hih _ _ w' hw (by first | ((repeat (first | with_reducible exact List.mem_cons_self | with_reducible apply List.mem_cons_of_mem)); done) | (repeat (first | exact List.Mem.head _ | apply List.Mem.tail))) (by first | ((repeat (first | with_reducible exact List.mem_cons_self | with_reducible apply List.mem_cons_of_mem)); done) | (repeat (first | exact List.Mem.head _ | apply List.Mem.tail)))); exact rfl); (first | exact rfl | exact ⟨rfl, rfl, rfl⟩); (rintro _ _ ⟨⟨a9, c9⟩, rfl, rfl⟩); (try refine ⟨SUB, ?_⟩)) | fail)
                all_goals (apply At_rounds (v + 1, AL, cL, 0, L); (case hE => (try dsimp only); (repeat (first | exact SubE.nil _ | refine SubE.cons rfl ?_))); (case hS => (try dsimp only); exact fun w' hw => hw.sel (by (repeat (first | exact Sel.nil _ | (apply Sel.cons; (repeat (first | with_reducible exact Pick.here _ _ | with_reducible apply Pick.there))))))); (case hμ => (try dsimp only); omega); (case hp => exact ⟨by (try dsimp only); omega, by (try dsimp only); omega, .inl ⟨rfl, hs.symm, hnx⟩⟩))
              | none =>
                rw [if_pos (by simp)] at hs
                repeat' (first | ((first | with_reducible (first | apply TL_q | apply TD_q0 | apply TD_q1 | apply TD_q2 | apply TD_q3) | ((with_reducible (first | apply TD_q0y | apply TD_q1y)); exact rfl; exact rfl; (with_reducible exact rfl))); (first | ((with_reducible apply QS_eqlNil); exact rfl; exact rfl) | exact QS.auto); exact rfl) | (refine GO ?_) | (refine GOE ?_; (first | (rintro _ _ ⟨rfl, rfl⟩) | (rintro _ _ ⟨g, rfl, rfl⟩) | (rintro _ _ ⟨A', c', rfl, rfl⟩))) | ((refine GO2 ?_ ?_) <;> intro h <;> (try (repeat (first | with_reducible (replace h := of_decide_eq_true h) | with_reducible (replace h := of_decide_eq_false h) | with_reducible (replace h := bnt h) | with_reducible (replace h := bnf h) | with_reducible (replace h := Int.not_lt.mp h) | with_reducible (replace h := Int.not_le.mp h) | with_reducible (replace h := band_dec h) | with_reducible (replace h := band_decF h) | with_reducible (replace h := bor_dec h) | with_reducible (replace h := bor_decF h)))) <;> (try (exfalso; first | contradiction | omega))) | ((with_reducible (first | apply TD_e2z | apply TD_e3z | apply TL_e | apply TD_e2 | apply TD_e3)); ((with_reducible apply ES_callX (f := 23) (X := Addr × Nat) (S1 := [entOwn Stp.enc 2 125 (some ⟨gN, 0, none⟩) 0 []]) (outV (none : Option (List Stp))) (outS (none : Option (List Stp)))); exact rfl; ((repeat (first | exact Pull.nil _ | (apply Pull.cons; (repeat (first | with_reducible exact Pick.here _ _ | with_reducible apply Pick.there)))))); (intro x; dsimp only [outS]; repeat (first | exact AppL.nil _ | apply AppL.cons)); (intro w' hw; exact hih _ _ w' hw (by first | ((repeat (first | with_reducible exact List.mem_cons_self | with_reducible apply List.mem_cons_of_mem)); done) | (repeat (first | exact List.Mem.head _ | apply List.Mem.tail))) (by first | ((repeat (first | with_reducible exact List.mem_cons_self | with_reducible apply List.mem_cons_of_mem)); done) | (repeat (first | exact List.Mem.head _ | apply List.Mem.tail)))); exact rfl); (first | exact rfl | exact ⟨rfl, rfl, rfl⟩); (rintro _ _ ⟨⟨a9, c9⟩, rfl, rfl⟩); (try refine ⟨SUB, ?_⟩)) | ((with_reducible (first | apply TD_e2z | apply TD_e3z | apply TL_e | apply TD_e2 | apply TD_e3)); ((with_reducible apply ES_append1 (enc := intEnc) (xx := (v : Int))); exact rfl; exact rfl; (repeat (first | with_reducible exact List.mem_cons_self | with_reducible apply List.mem_cons_of_mem)); exact rfl; exact fun _ => rfl; exact fun _ => rfl; (intro A' c'; first | ((repeat (first | with_reducible exact Upd.here _ _ _ | with_reducible apply Upd.there)); done) | (repeat (first | exact Upd.here _ _ _ | apply Upd.there))); (omega); decide; exact rfl); (first | exact rfl | exact ⟨rfl, rfl, rfl⟩); (rintro _ _ ⟨A', c', rfl, rfl⟩); (try refine ⟨SUB, ?_⟩)) | fail)
                all_goals (apply At_rounds (v + 1, A', c', 0, L ++ [(v : Int)]); (case hE => (try dsimp only); (repeat (first | exact SubE.nil _ | refine SubE.cons rfl ?_))); (case hS => (try dsimp only); exact fun w' hw => hw.sel (by (repeat (first | exact Sel.nil _ | (apply Sel.cons; (repeat (first | with_reducible exact Pick.here _ _ | with_reducible apply Pick.there))))))); (case hμ => (try dsimp only); omega); (case hp => exact ⟨by (try dsimp only); omega, by (try dsimp only); omega, .inl ⟨rfl, hs.symm, hnx⟩⟩))
        · obtain rfl : v = 1001 := by omega
          have hb := hbig0 hfew
          have hLl : L.length ≤ 1001 := by rw [hL]; exact hsl 1001
          have hBLe : BL = L := by rw [hBL, hb, hL]; rfl
          have heqI := fun A B c d w h1 h2 => equal_any A B c d BL L w (by omega) (by omega) h1 h2
          rw [decide_eq_true hBLe] at heqI
          rw [hb]
          clear hown hbig0 hbig1 hfew
          repeat' (first | ((first | with_reducible (first | apply TL_q | apply TD_q0 | apply TD_q1 | apply TD_q2 | apply TD_q3) | ((with_reducible (first | apply TD_q0y | apply TD_q1y)); exact rfl; exact rfl; (with_reducible exact rfl))); (first | ((with_reducible apply QS_eqlNil); exact rfl; exact rfl) | exact QS.auto); exact rfl) | (refine GO ?_) | (refine GOE ?_; (first | (rintro _ _ ⟨rfl, rfl⟩) | (rintro _ _ ⟨g, rfl, rfl⟩) | (rintro _ _ ⟨A', c', rfl, rfl⟩))) | ((refine GO2 ?_ ?_) <;> intro h <;> (try (repeat (first | with_reducible (replace h := of_decide_eq_true h) | with_reducible (replace h := of_decide_eq_false h) | with_reducible (replace h := bnt h) | with_reducible (replace h := bnf h) | with_reducible (replace h := Int.not_lt.mp h) | with_reducible (replace h := Int.not_le.mp h) | with_reducible (replace h := band_dec h) | with_reducible (replace h := band_decF h) | with_reducible (replace h := bor_dec h) | with_reducible (replace h := bor_decF h)))) <;> (try (exfalso; first | contradiction | omega))) | ((with_reducible (first | apply TD_e2z | apply TD_e3z | apply TL_e | apply TD_e2 | apply TD_e3)); ((with_reducible apply ES_callV (f := 25)); exact rfl; (intro w hw; exact heqI A2 AL c2 cL w (hw.ownRd (et := 3) (by first | ((repeat (first | with_reducible exact List.mem_cons_self | with_reducible apply List.mem_cons_of_mem)); done) | (repeat (first | exact List.Mem.head _ | apply List.Mem.tail))) (fun _ => rfl)) (hw.ownRd (et := 3) (by first | ((repeat (first | with_reducible exact List.mem_cons_self | with_reducible apply List.mem_cons_of_mem)); done) | (repeat (first | exact List.Mem.head _ | apply List.Mem.tail))) (fun _ => rfl))); exact rfl); (first | exact rfl | exact ⟨rfl, rfl, rfl⟩); (rintro _ _ ⟨rfl, rfl⟩); (try refine ⟨SUB, ?_⟩)) | fail)
          all_goals first
            | ((refine At_ret Try.results5 rfl (fun w' hw => ?_)); exact ⟨by simp [resVal], hw.below0 rfl⟩)
            | (exfalso; omega)
      · subst hri
        have hBLe : BL = [] := by rw [hBL, hbg]; rfl
        subst hBLe
        rw [hbg]
        clear hown hbig0 hbig1
        repeat' (first | ((first | with_reducible (first | apply TL_q | apply TD_q0 | apply TD_q1 | apply TD_q2 | apply TD_q3) | ((with_reducible (first | apply TD_q0y | apply TD_q1y)); exact rfl; exact rfl; (with_reducible exact rfl))); (first | ((with_reducible apply QS_eqlNil); exact rfl; exact rfl) | exact QS.auto); exact rfl) | (refine GO ?_) | (refine GOE ?_; (first | (rintro _ _ ⟨rfl, rfl⟩) | (rintro _ _ ⟨g, rfl, rfl⟩) | (rintro _ _ ⟨A', c', rfl, rfl⟩))) | ((refine GO2 ?_ ?_) <;> intro h <;> (try (repeat (first | with_reducible (replace h := of_decide_eq_true h) | with_reducible (replace h := of_decide_eq_false h) | with_reducible (replace h := bnt h) | with_reducible (replace h := bnf h) | with_reducible (replace h := Int.not_lt.mp h) | with_reducible (replace h := Int.not_le.mp h) | with_reducible (replace h := band_dec h) | with_reducible (replace h := band_decF h) | with_reducible (replace h := bor_dec h) | with_reducible (replace h := bor_decF h)))) <;> (try (exfalso; first | contradiction | omega))) | fail)
        all_goals first
          | ((refine At_ret Try.results5 rfl (fun w' hw => ?_)); exact ⟨by simp [resVal], hw.below0 rfl⟩)
          | (exfalso; omega)
    · rw [if_neg hn] at hbpE
      rw [if_pos hbpE] at hbpR
      rw [hbpE, hbpR] at hpt
      have hn1 : (decide (1 ≤ n) && decide (n ≤ 1000)) = true := by
        rw [Bool.and_eq_true, decide_eq_true_eq, decide_eq_true_eq]; omega
      have hbc := fun A c w h => bagCalls_any A c cs w hcl h n
      have hbe := fun A c w h1 h2 => bagEvents_any B0 A d0 c l (cs.filter (bagA n)) w h200 (Nat.le_trans (List.length_filter_le _ _) hcl) h1 h2
      rw [hbk] at hbe
      have heq := fun A B c d w h1 h2 => equalEv_any A B c d (keepL l (bagP l n) l.length) (keepL l (bagP l n) l.length) w (by omega) (by omega) h1 h2
      rw [decide_eq_true rfl] at heq
      generalize keepL l (bagP l n) l.length = P at *
      repeat' (first | ((first | with_reducible (first | apply TL_q | apply TD_q0 | apply TD_q1 | apply TD_q2 | apply TD_q3) | ((with_reducible (first | apply TD_q0y | apply TD_q1y)); exact rfl; exact rfl; (with_reducible exact rfl))); (first | ((with_reducible apply QS_eqlNil); exact rfl; exact rfl) | exact QS.auto); exact rfl) | (refine GO ?_) | (refine GOE ?_; (first | (rintro _ _ ⟨rfl, rfl⟩) | (rintro _ _ ⟨g, rfl, rfl⟩) | (rintro _ _ ⟨A', c', rfl, rfl⟩))) | ((refine GO2 ?_ ?_) <;> intro h <;> (try (repeat (first | with_reducible (replace h := of_decide_eq_true h) | with_reducible (replace h := of_decide_eq_false h) | with_reducible (replace h := bnt h) | with_reducible (replace h := bnf h) | with_reducible (replace h := Int.not_lt.mp h) | with_reducible (replace h := Int.not_le.mp h) | with_reducible (replace h := band_dec h) | with_reducible (replace h := band_decF h) | with_reducible (replace h := bor_dec h) | with_reducible (replace h := bor_decF h)))) <;> (try (exfalso; first | contradiction | omega))) | ((with_reducible (first | apply TD_e2z | apply TD_e3z | apply TL_e | apply TD_e2 | apply TD_e3)); ((with_reducible apply ES_callOwn (f := 17)); exact rfl; (intro w hw; exact hpt w (hw.rd rfl hA)); exact rfl); (first | exact rfl | exact ⟨rfl, rfl, rfl⟩); (rintro _ _ ⟨A1, c1, rfl, rfl⟩); (try refine ⟨SUB, ?_⟩)) | ((with_reducible (first | apply TD_e2z | apply TD_e3z | apply TL_e | apply TD_e2 | apply TD_e3)); ((with_reducible apply ES_callOwn (f := 18)); exact rfl; (intro w hw; exact hck w (hw.rd rfl hA)); exact rfl); (first | exact rfl | exact ⟨rfl, rfl, rfl⟩); (rintro _ _ ⟨A2, c2, rfl, rfl⟩); (try refine ⟨SUB, ?_⟩)) | ((with_reducible (first | apply TD_e2z | apply TD_e3z | apply TL_e | apply TD_e2 | apply TD_e3)); ((with_reducible apply ES_callOwn (f := 19)); exact rfl; (intro w hw; exact hco _ 1 w (RdInt.of_list (l := [4]) (hw.theBlk (by first | ((repeat (first | with_reducible exact List.mem_cons_self | with_reducible apply List.mem_cons_of_mem)); done) | (repeat (first | exact List.Mem.head _ | apply List.Mem.tail))))) (hw.rd rfl hA)); exact rfl); (first | exact rfl | exact ⟨rfl, rfl, rfl⟩); (rintro _ _ ⟨A3, c3, rfl, rfl⟩); (try refine ⟨SUB, ?_⟩)) | ((with_reducible (first | apply TD_e2z | apply TD_e3z | apply TL_e | apply TD_e2 | apply TD_e3)); ((with_reducible apply ES_callV (f := 20)); exact rfl; (intro w hw; exact between_B _ _ _ _); exact rfl); (first | exact rfl | exact ⟨rfl, rfl, rfl⟩); (rintro _ _ ⟨rfl, rfl⟩); (try refine ⟨SUB, ?_⟩)) | fail)
      all_goals first | (exfalso; omega) | (exfalso; simp_all; done) | skip
      have hbc := hbc A3 c3
      repeat' (first | ((first | with_reducible (first | apply TL_q | apply TD_q0 | apply TD_q1 | apply TD_q2 | apply TD_q3) | ((with_reducible (first | apply TD_q0y | apply TD_q1y)); exact rfl; exact rfl; (with_reducible exact rfl))); (first | ((with_reducible apply QS_eqlNil); exact rfl; exact rfl) | exact QS.auto); exact rfl) | (refine GO ?_) | (refine GOE ?_; (first | (rintro _ _ ⟨rfl, rfl⟩) | (rintro _ _ ⟨g, rfl, rfl⟩) | (rintro _ _ ⟨A', c', rfl, rfl⟩))) | ((refine GO2 ?_ ?_) <;> intro h <;> (try (repeat (first | with_reducible (replace h := of_decide_eq_true h) | with_reducible (replace h := of_decide_eq_false h) | with_reducible (replace h := bnt h) | with_reducible (replace h := bnf h) | with_reducible (replace h := Int.not_lt.mp h) | with_reducible (replace h := Int.not_le.mp h) | with_reducible (replace h := band_dec h) | with_reducible (replace h := band_decF h) | with_reducible (replace h := bor_dec h) | with_reducible (replace h := bor_decF h)))) <;> (try (exfalso; first | contradiction | omega))) | ((with_reducible (first | apply TD_e2z | apply TD_e3z | apply TL_e | apply TD_e2 | apply TD_e3)); ((with_reducible apply ES_callOwn (f := 22)); exact rfl; (intro w hw; exact hbc w (hw.ownRd (by first | ((repeat (first | with_reducible exact List.mem_cons_self | with_reducible apply List.mem_cons_of_mem)); done) | (repeat (first | exact List.Mem.head _ | apply List.Mem.tail))) (fun _ => rfl))); exact rfl); (first | exact rfl | exact ⟨rfl, rfl, rfl⟩); (rintro _ _ ⟨A4, c4, rfl, rfl⟩); (try refine ⟨SUB, ?_⟩)) | ((with_reducible (first | apply TD_e2z | apply TD_e3z | apply TL_e | apply TD_e2 | apply TD_e3)); ((with_reducible apply ES_callOwn (f := 21)); exact rfl; (intro w hw; exact hbe A4 c4 w (hw.rd rfl hA) (hw.ownRd (by first | ((repeat (first | with_reducible exact List.mem_cons_self | with_reducible apply List.mem_cons_of_mem)); done) | (repeat (first | exact List.Mem.head _ | apply List.Mem.tail))) (fun _ => rfl))); exact rfl); (first | exact rfl | exact ⟨rfl, rfl, rfl⟩); (rintro _ _ ⟨A5, c5, rfl, rfl⟩); (try refine ⟨SUB, ?_⟩)) | ((with_reducible (first | apply TD_e2z | apply TD_e3z | apply TL_e | apply TD_e2 | apply TD_e3)); ((with_reducible apply ES_callV (f := 9)); exact rfl; (intro w hw; exact heq _ _ _ _ w (hw.ownRd (et := 34) (c := c1) (by first | ((repeat (first | with_reducible exact List.mem_cons_self | with_reducible apply List.mem_cons_of_mem)); done) | (repeat (first | exact List.Mem.head _ | apply List.Mem.tail))) (fun _ => rfl)) (hw.ownRd (et := 34) (by first | ((repeat (first | with_reducible exact List.mem_cons_self | with_reducible apply List.mem_cons_of_mem)); done) | (repeat (first | exact List.Mem.head _ | apply List.Mem.tail))) (fun _ => rfl))); exact rfl); (first | exact rfl | exact ⟨rfl, rfl, rfl⟩); (rintro _ _ ⟨rfl, rfl⟩); (try refine ⟨SUB, ?_⟩)) | fail)
      all_goals first | (exfalso; omega) | skip
      clear hbc hbe heq
      refine T_loop (X := Nat × Option Addr × Nat × Int × List Int) (fun x => [(15, .int .i64 (x.1 : Nat)), (14, .slice x.2.1 x.2.2.2.2.length x.2.2.1), (11, .int .i64 x.2.2.2.1), (9, .slice A3 cs.length c3), (8, .int .i64 (if bigB cs = true then 2 else 0)), (7, .slice A2 BL.length c2)]) (fun x => [entOwn intEnc 1 3 x.2.1 x.2.2.1 x.2.2.2.2, entOwn Cl.enc 7 107 A3 c3 cs, entOwn intEnc 1 3 A2 c2 BL])
        (fun x => 1 ≤ x.1 ∧ x.1 ≤ 1001 ∧ ((x.2.2.2.1 = 0 ∧ x.2.2.2.2 = bcL cs x.1 ∧ ∀ u : Nat, 1 ≤ u → u < x.1 → (cs.filter (bagA (u : Nat))).length ≤ 9) ∨ (x.2.2.2.1 = 2 ∧ bigB cs = true))) (fun x => 1001 - x.1) (1, none, 0, 0, []) ⟨by (try dsimp only); omega, by (try dsimp only); omega, .inl ⟨rfl, rfl, fun u h1 h2 => by (try dsimp only at h2); omega⟩⟩ (by (try dsimp only); (repeat (first | exact SubE.nil _ | refine SubE.cons rfl ?_))) (fun w' hw => by (try dsimp only); exact (hw.nilOwn intEnc 1 3).sel (by (repeat (first | exact Sel.nil _ | (apply Sel.cons; (repeat (first | with_reducible exact Pick.here _ _ | with_reducible apply Pick.there))))))) ?_
      rintro ⟨v, AL, cL, ri, L⟩ ⟨hv1, hv2, hst⟩
      dsimp only at hv1 hv2 hst ⊢
      rcases hst with ⟨hri, hL, hfew⟩ | ⟨hri, hbg⟩
      · subst hri
        by_cases hvl : v < 1001
        · have hbv := fun w h => bagCalls_any A3 c3 cs w hcl h (v : Nat)
          have hs := hss v
          have hLl : L.length ≤ v := by rw [hL]; exact hsl v
          have hi1 : inbB cs (v : Nat) = (decide (0 < (cs.filter (bagA (v : Nat))).length) && (foundS [4] (cs.filter (bagA (v : Nat))) (relAhead (cs.filter (bagA (v : Nat))))).isNone) := rfl
          rw [← hL, decide_eq_true hv1, Bool.true_and, hi1] at hs
          have hbg := hbig1 (v : Nat)
          have hown := hown (v : Nat)
          have hnx : (cs.filter (bagA (v : Nat))).length ≤ 9 → ∀ u : Nat, 1 ≤ u → u < v + 1 → (cs.filter (bagA (u : Nat))).length ≤ 9 := fun h u h1 h2 => (Nat.lt_succ_iff_lt_or_eq.1 h2).elim (fun e => hfew u h1 e) (fun e => by subst e; exact h)
          have hlen : (cs.filter (bagA (v : Nat))).length ≤ 200 := Nat.le_trans (List.length_filter_le _ _) hcl
          clear hfew hss hsl hbig0 hbig1 hi1 hbk heq0 hpt hck hco hL
          generalize cs.filter (bagA (v : Nat)) = O at *
          by_cases hO9 : 9 < O.length
          · have hb := hbg hO9
            repeat' (first | ((first | with_reducible (first | apply TL_q | apply TD_q0 | apply TD_q1 | apply TD_q2 | apply TD_q3) | ((with_reducible (first | apply TD_q0y | apply TD_q1y)); exact rfl; exact rfl; (with_reducible exact rfl))); (first | ((with_reducible apply QS_eqlNil); exact rfl; exact rfl) | exact QS.auto); exact rfl) | (refine GO ?_) | (refine GOE ?_; (first | (rintro _ _ ⟨rfl, rfl⟩) | (rintro _ _ ⟨g, rfl, rfl⟩) | (rintro _ _ ⟨A', c', rfl, rfl⟩))) | ((refine GO2 ?_ ?_) <;> intro h <;> (try (repeat (first | with_reducible (replace h := of_decide_eq_true h) | with_reducible (replace h := of_decide_eq_false h) | with_reducible (replace h := bnt h) | with_reducible (replace h := bnf h) | with_reducible (replace h := Int.not_lt.mp h) | with_reducible (replace h := Int.not_le.mp h) | with_reducible (replace h := band_dec h) | with_reducible (replace h := band_decF h) | with_reducible (replace h := bor_dec h) | with_reducible (replace h := bor_decF h)))) <;> (try (exfalso; first | contradiction | omega))) | ((with_reducible (first | apply TD_e2z | apply TD_e3z | apply TL_e | apply TD_e2 | apply TD_e3)); ((with_reducible apply ES_callOwn (f := 22)); exact rfl; (intro w hw; exact hbv w (hw.ownRd (by first | ((repeat (first | with_reducible exact List.mem_cons_self | with_reducible apply List.mem_cons_of_mem)); done) | (repeat (first | exact List.Mem.head _ | apply List.Mem.tail))) (fun _ => rfl))); exact rfl); (first | exact rfl | exact ⟨rfl, rfl, rfl⟩); (rintro _ _ ⟨A6, c6, rfl, rfl⟩); (try refine ⟨SUB, ?_⟩)) | fail)
            all_goals first
              | (exfalso; omega)
              | (apply At_rounds (v + 1, AL, cL, 2, L); (case hE => (try dsimp only); (repeat (first | exact SubE.nil _ | refine SubE.cons rfl ?_))); (case hS => (try dsimp only); exact fun w' hw => hw.sel (by (repeat (first | exact Sel.nil _ | (apply Sel.cons; (repeat (first | with_reducible exact Pick.here _ _ | with_reducible apply Pick.there))))))); (case hμ => (try dsimp only); omega); (case hp => exact ⟨by (try dsimp only); omega, by (try dsimp only); omega, .inr ⟨rfl, hb⟩⟩))
          · have hnx := hnx (by omega)
            obtain ⟨ht, hc, hR⟩ := hown (by omega)
            by_cases hO0 : O.length = 0
            · rw [hO0, decide_eq_false (by decide), Bool.false_and, if_neg (by decide)] at hs
              repeat' (first | ((first | with_reducible (first | apply TL_q | apply TD_q0 | apply TD_q1 | apply TD_q2 | apply TD_q3) | ((with_reducible (first | apply TD_q0y | apply TD_q1y)); exact rfl; exact rfl; (with_reducible exact rfl))); (first | ((with_reducible apply QS_eqlNil); exact rfl; exact rfl) | exact QS.auto); exact rfl) | (refine GO ?_) | (refine GOE ?_; (first | (rintro _ _ ⟨rfl, rfl⟩) | (rintro _ _ ⟨g, rfl, rfl⟩) | (rintro _ _ ⟨A', c', rfl, rfl⟩))) | ((refine GO2 ?_ ?_) <;> intro h <;> (try (repeat (first | with_reducible (replace h := of_decide_eq_true h) | with_reducible (replace h := of_decide_eq_false h) | with_reducible (replace h := bnt h) | with_reducible (replace h := bnf h) | with_reducible (replace h := Int.not_lt.mp h) | with_reducible (replace h := Int.not_le.mp h) | with_reducible (replace h := band_dec h) | with_reducible (replace h := band_decF h) | with_reducible (replace h := bor_dec h) | with_reducible (replace h := bor_decF h)))) <;> (try (exfalso; first | contradiction | omega))) | ((with_reducible (first | apply TD_e2z | apply TD_e3z | apply TL_e | apply TD_e2 | apply TD_e3)); ((with_reducible apply ES_callOwn (f := 22)); exact rfl; (intro w hw; exact hbv w (hw.ownRd (by first | ((repeat (first | with_reducible exact List.mem_cons_self | with_reducible apply List.mem_cons_of_mem)); done) | (repeat (first | exact List.Mem.head _ | apply List.Mem.tail))) (fun _ => rfl))); exact rfl); (first | exact rfl | exact ⟨rfl, rfl, rfl⟩); (rintro _ _ ⟨A6, c6, rfl, rfl⟩); (try refine ⟨SUB, ?_⟩)) | fail)
              all_goals first
                | (exfalso; omega)
                | (apply At_rounds (v + 1, AL, cL, 0, L); (case hE => (try dsimp only); (repeat (first | exact SubE.nil _ | refine SubE.cons rfl ?_))); (case hS => (try dsimp only); exact fun w' hw => hw.sel (by (repeat (first | exact Sel.nil _ | (apply Sel.cons; (repeat (first | with_reducible exact Pick.here _ _ | with_reducible apply Pick.there))))))); (case hμ => (try dsimp only); omega); (case hp => exact ⟨by (try dsimp only); omega, by (try dsimp only); omega, .inl ⟨rfl, hs.symm, hnx⟩⟩))
            · have hcr := fun A c w h => callRel_any A c O w h (by omega)
              rw [decide_eq_true (show 0 < O.length by omega), Bool.true_and] at hs
              have hlb := fun gN g4 A6 c6 => leastBag_any O gN g4 A6 c6 ht hc hR (by omega)
              generalize foundS [4] O (relAhead O) = o at *
              repeat' (first | ((first | with_reducible (first | apply TL_q | apply TD_q0 | apply TD_q1 | apply TD_q2 | apply TD_q3) | ((with_reducible (first | apply TD_q0y | apply TD_q1y)); exact rfl; exact rfl; (with_reducible exact rfl))); (first | ((with_reducible apply QS_eqlNil); exact rfl; exact rfl) | exact QS.auto); exact rfl) | (refine GO ?_) | (refine GOE ?_; (first | (rintro _ _ ⟨rfl, rfl⟩) | (rintro _ _ ⟨g, rfl, rfl⟩) | (rintro _ _ ⟨A', c', rfl, rfl⟩))) | ((refine GO2 ?_ ?_) <;> intro h <;> (try (repeat (first | with_reducible (replace h := of_decide_eq_true h) | with_reducible (replace h := of_decide_eq_false h) | with_reducible (replace h := bnt h) | with_reducible (replace h := bnf h) | with_reducible (replace h := Int.not_lt.mp h) | with_reducible (replace h := Int.not_le.mp h) | with_reducible (replace h := band_dec h) | with_reducible (replace h := band_decF h) | with_reducible (replace h := bor_dec h) | with_reducible (replace h := bor_decF h)))) <;> (try (exfalso; first | contradiction | omega))) | ((with_reducible (first | apply TD_e2z | apply TD_e3z | apply TL_e | apply TD_e2 | apply TD_e3)); ((with_reducible apply ES_callOwn (f := 22)); exact rfl; (intro w hw; exact hbv w (hw.ownRd (by first | ((repeat (first | with_reducible exact List.mem_cons_self | with_reducible apply List.mem_cons_of_mem)); done) | (repeat (first | exact List.Mem.head _ | apply List.Mem.tail))) (fun _ => rfl))); exact rfl); (first | exact rfl | exact ⟨rfl, rfl, rfl⟩); (rintro _ _ ⟨A6, c6, rfl, rfl⟩); (try refine ⟨SUB, ?_⟩)) | ((with_reducible (first | apply TD_e2z | apply TD_e3z | apply TL_e | apply TD_e2 | apply TD_e3)); ((with_reducible apply ES_callV (f := 24)); exact rfl; (intro w hw; exact hcr A6 c6 w (hw.ownRd (by first | ((repeat (first | with_reducible exact List.mem_cons_self | with_reducible apply List.mem_cons_of_mem)); done) | (repeat (first | exact List.Mem.head _ | apply List.Mem.tail))) (fun _ => rfl))); exact rfl); (first | exact rfl | exact ⟨rfl, rfl, rfl⟩); (rintro _ _ ⟨rfl, rfl⟩); (try refine ⟨SUB, ?_⟩)) | ((with_reducible (first | apply TD_e2z | apply TD_e3z | apply TL_e | apply TD_e2 | apply TD_e3)); ((with_reducible apply ES_buildSlice0 Stp.enc); exact rfl); (first | exact rfl | exact ⟨rfl, rfl, rfl⟩); (rintro _ _ ⟨g, rfl, rfl⟩); (try refine ⟨SUB, ?_⟩)) | fail)
              all_goals first | (exfalso; omega) | skip
              obtain ⟨gN, rfl⟩ : ∃ x, x = g := ⟨_, rfl⟩
              obtain ⟨g4, rfl⟩ : ∃ x, x = g := ⟨_, rfl⟩
              have hih := fun C R w hw h4 hO => hlb gN g4 A6 c6 C R w hw h4 hO
              clear hlb hown hbg hcr hc hR
              cases o with
              | some r =>
                rw [if_neg (by simp)] at hs
                repeat' (first | ((first | with_reducible (first | apply TL_q | apply TD_q0 | apply TD_q1 | apply TD_q2 | apply TD_q3) | ((with_reducible (first | apply TD_q0y | apply TD_q1y)); exact rfl; exact rfl; (with_reducible exact rfl))); (first | ((with_reducible apply QS_eqlNil); exact rfl; exact rfl) | exact QS.auto); exact rfl) | (refine GO ?_) | (refine GOE ?_; (first | (rintro _ _ ⟨rfl, rfl⟩) | (rintro _ _ ⟨g, rfl, rfl⟩) | (rintro _ _ ⟨A', c', rfl, rfl⟩))) | ((refine GO2 ?_ ?_) <;> intro h <;> (try (repeat (first | with_reducible (replace h := of_decide_eq_true h) | with_reducible (replace h := of_decide_eq_false h) | with_reducible (replace h := bnt h) | with_reducible (replace h := bnf h) | with_reducible (replace h := Int.not_lt.mp h) | with_reducible (replace h := Int.not_le.mp h) | with_reducible (replace h := band_dec h) | with_reducible (replace h := band_decF h) | with_reducible (replace h := bor_dec h) | with_reducible (replace h := bor_decF h)))) <;> (try (exfalso; first | contradiction | omega))) | ((with_reducible (first | apply TD_e2z | apply TD_e3z | apply TL_e | apply TD_e2 | apply TD_e3)); ((with_reducible apply ES_callX (f := 23) (X := Addr × Nat) (S1 := [entOwn Stp.enc 2 125 (some ⟨gN, 0, none⟩) 0 []]) (outV (some r)) (outS (some r))); exact rfl; ((repeat (first | exact Pull.nil _ | (apply Pull.cons; (repeat (first | with_reducible exact Pick.here _ _ | with_reducible apply Pick.there)))))); (intro x; dsimp only [outS]; repeat (first | exact AppL.nil _ | apply AppL.cons)); (intro w' hw; exact hih _ _ w' hw (by first | ((repeat (first | with_reducible exact List.mem_cons_self | with_reducible apply List.mem_cons_of_mem)); done) | (repeat (first | exact List.Mem.head _ | apply List.Mem.tail))) (by first | ((repeat (first | with_reducible exact List.mem_cons_self | with_reducible apply List.mem_cons_of_mem)); done) | (repeat (first | exact List.Mem.head _ | apply List.Mem.tail)))); exact rfl); (first | exact rfl | exact ⟨rfl, rfl, rfl⟩); (rintro _ _ ⟨⟨a9, c9⟩, rfl, rfl⟩); (try refine ⟨SUB, ?_⟩)) | fail)
                all_goals (apply At_rounds (v + 1, AL, cL, 0, L); (case hE => (try dsimp only); (repeat (first | exact SubE.nil _ | refine SubE.cons rfl ?_))); (case hS => (try dsimp only); exact fun w' hw => hw.sel (by (repeat (first | exact Sel.nil _ | (apply Sel.cons; (repeat (first | with_reducible exact Pick.here _ _ | with_reducible apply Pick.there))))))); (case hμ => (try dsimp only); omega); (case hp => exact ⟨by (try dsimp only); omega, by (try dsimp only); omega, .inl ⟨rfl, hs.symm, hnx⟩⟩))
              | none =>
                rw [if_pos (by simp)] at hs
                repeat' (first | ((first | with_reducible (first | apply TL_q | apply TD_q0 | apply TD_q1 | apply TD_q2 | apply TD_q3) | ((with_reducible (first | apply TD_q0y | apply TD_q1y)); exact rfl; exact rfl; (with_reducible exact rfl))); (first | ((with_reducible apply QS_eqlNil); exact rfl; exact rfl) | exact QS.auto); exact rfl) | (refine GO ?_) | (refine GOE ?_; (first | (rintro _ _ ⟨rfl, rfl⟩) | (rintro _ _ ⟨g, rfl, rfl⟩) | (rintro _ _ ⟨A', c', rfl, rfl⟩))) | ((refine GO2 ?_ ?_) <;> intro h <;> (try (repeat (first | with_reducible (replace h := of_decide_eq_true h) | with_reducible (replace h := of_decide_eq_false h) | with_reducible (replace h := bnt h) | with_reducible (replace h := bnf h) | with_reducible (replace h := Int.not_lt.mp h) | with_reducible (replace h := Int.not_le.mp h) | with_reducible (replace h := band_dec h) | with_reducible (replace h := band_decF h) | with_reducible (replace h := bor_dec h) | with_reducible (replace h := bor_decF h)))) <;> (try (exfalso; first | contradiction | omega))) | ((with_reducible (first | apply TD_e2z | apply TD_e3z | apply TL_e | apply TD_e2 | apply TD_e3)); ((with_reducible apply ES_callX (f := 23) (X := Addr × Nat) (S1 := [entOwn Stp.enc 2 125 (some ⟨gN, 0, none⟩) 0 []]) (outV (none : Option (List Stp))) (outS (none : Option (List Stp)))); exact rfl; ((repeat (first | exact Pull.nil _ | (apply Pull.cons; (repeat (first | with_reducible exact Pick.here _ _ | with_reducible apply Pick.there)))))); (intro x; dsimp only [outS]; repeat (first | exact AppL.nil _ | apply AppL.cons)); (intro w' hw; exact hih _ _ w' hw (by first | ((repeat (first | with_reducible exact List.mem_cons_self | with_reducible apply List.mem_cons_of_mem)); done) | (repeat (first | exact List.Mem.head _ | apply List.Mem.tail))) (by first | ((repeat (first | with_reducible exact List.mem_cons_self | with_reducible apply List.mem_cons_of_mem)); done) | (repeat (first | exact List.Mem.head _ | apply List.Mem.tail)))); exact rfl); (first | exact rfl | exact ⟨rfl, rfl, rfl⟩); (rintro _ _ ⟨⟨a9, c9⟩, rfl, rfl⟩); (try refine ⟨SUB, ?_⟩)) | ((with_reducible (first | apply TD_e2z | apply TD_e3z | apply TL_e | apply TD_e2 | apply TD_e3)); ((with_reducible apply ES_append1 (enc := intEnc) (xx := (v : Int))); exact rfl; exact rfl; (repeat (first | with_reducible exact List.mem_cons_self | with_reducible apply List.mem_cons_of_mem)); exact rfl; exact fun _ => rfl; exact fun _ => rfl; (intro A' c'; first | ((repeat (first | with_reducible exact Upd.here _ _ _ | with_reducible apply Upd.there)); done) | (repeat (first | exact Upd.here _ _ _ | apply Upd.there))); (omega); decide; exact rfl); (first | exact rfl | exact ⟨rfl, rfl, rfl⟩); (rintro _ _ ⟨A', c', rfl, rfl⟩); (try refine ⟨SUB, ?_⟩)) | fail)
                all_goals (apply At_rounds (v + 1, A', c', 0, L ++ [(v : Int)]); (case hE => (try dsimp only); (repeat (first | exact SubE.nil _ | refine SubE.cons rfl ?_))); (case hS => (try dsimp only); exact fun w' hw => hw.sel (by (repeat (first | exact Sel.nil _ | (apply Sel.cons; (repeat (first | with_reducible exact Pick.here _ _ | with_reducible apply Pick.there))))))); (case hμ => (try dsimp only); omega); (case hp => exact ⟨by (try dsimp only); omega, by (try dsimp only); omega, .inl ⟨rfl, hs.symm, hnx⟩⟩))
        · obtain rfl : v = 1001 := by omega
          have hb := hbig0 hfew
          have hLl : L.length ≤ 1001 := by rw [hL]; exact hsl 1001
          have hBLe : BL = L := by rw [hBL, hb, hL]; rfl
          have heqI := fun A B c d w h1 h2 => equal_any A B c d BL L w (by omega) (by omega) h1 h2
          rw [decide_eq_true hBLe] at heqI
          rw [hb]
          clear hown hbig0 hbig1 hfew
          repeat' (first | ((first | with_reducible (first | apply TL_q | apply TD_q0 | apply TD_q1 | apply TD_q2 | apply TD_q3) | ((with_reducible (first | apply TD_q0y | apply TD_q1y)); exact rfl; exact rfl; (with_reducible exact rfl))); (first | ((with_reducible apply QS_eqlNil); exact rfl; exact rfl) | exact QS.auto); exact rfl) | (refine GO ?_) | (refine GOE ?_; (first | (rintro _ _ ⟨rfl, rfl⟩) | (rintro _ _ ⟨g, rfl, rfl⟩) | (rintro _ _ ⟨A', c', rfl, rfl⟩))) | ((refine GO2 ?_ ?_) <;> intro h <;> (try (repeat (first | with_reducible (replace h := of_decide_eq_true h) | with_reducible (replace h := of_decide_eq_false h) | with_reducible (replace h := bnt h) | with_reducible (replace h := bnf h) | with_reducible (replace h := Int.not_lt.mp h) | with_reducible (replace h := Int.not_le.mp h) | with_reducible (replace h := band_dec h) | with_reducible (replace h := band_decF h) | with_reducible (replace h := bor_dec h) | with_reducible (replace h := bor_decF h)))) <;> (try (exfalso; first | contradiction | omega))) | ((with_reducible (first | apply TD_e2z | apply TD_e3z | apply TL_e | apply TD_e2 | apply TD_e3)); ((with_reducible apply ES_callV (f := 25)); exact rfl; (intro w hw; exact heqI A2 AL c2 cL w (hw.ownRd (et := 3) (by first | ((repeat (first | with_reducible exact List.mem_cons_self | with_reducible apply List.mem_cons_of_mem)); done) | (repeat (first | exact List.Mem.head _ | apply List.Mem.tail))) (fun _ => rfl)) (hw.ownRd (et := 3) (by first | ((repeat (first | with_reducible exact List.mem_cons_self | with_reducible apply List.mem_cons_of_mem)); done) | (repeat (first | exact List.Mem.head _ | apply List.Mem.tail))) (fun _ => rfl))); exact rfl); (first | exact rfl | exact ⟨rfl, rfl, rfl⟩); (rintro _ _ ⟨rfl, rfl⟩); (try refine ⟨SUB, ?_⟩)) | fail)
          all_goals first
            | ((refine At_ret Try.results5 rfl (fun w' hw => ?_)); exact ⟨by simp [resVal], hw.below0 rfl⟩)
            | (exfalso; omega)
      · subst hri
        have hBLe : BL = [] := by rw [hBL, hbg]; rfl
        subst hBLe
        rw [hbg]
        clear hown hbig0 hbig1
        repeat' (first | ((first | with_reducible (first | apply TL_q | apply TD_q0 | apply TD_q1 | apply TD_q2 | apply TD_q3) | ((with_reducible (first | apply TD_q0y | apply TD_q1y)); exact rfl; exact rfl; (with_reducible exact rfl))); (first | ((with_reducible apply QS_eqlNil); exact rfl; exact rfl) | exact QS.auto); exact rfl) | (refine GO ?_) | (refine GOE ?_; (first | (rintro _ _ ⟨rfl, rfl⟩) | (rintro _ _ ⟨g, rfl, rfl⟩) | (rintro _ _ ⟨A', c', rfl, rfl⟩))) | ((refine GO2 ?_ ?_) <;> intro h <;> (try (repeat (first | with_reducible (replace h := of_decide_eq_true h) | with_reducible (replace h := of_decide_eq_false h) | with_reducible (replace h := bnt h) | with_reducible (replace h := bnf h) | with_reducible (replace h := Int.not_lt.mp h) | with_reducible (replace h := Int.not_le.mp h) | with_reducible (replace h := band_dec h) | with_reducible (replace h := band_decF h) | with_reducible (replace h := bor_dec h) | with_reducible (replace h := bor_decF h)))) <;> (try (exfalso; first | contradiction | omega))) | fail)
        all_goals first
          | ((refine At_ret Try.results5 rfl (fun w' hw => ?_)); exact ⟨by simp [resVal], hw.below0 rfl⟩)
          | (exfalso; omega)
  · rw [if_pos hz] at hbpE hbcE
    rw [if_neg (by omega)] at hbpR hck
    rw [hbcE] at hck
    rw [hbpE, hbpR] at hpt
    repeat' (first | ((first | with_reducible (first | apply TL_q | apply TD_q0 | apply TD_q1 | apply TD_q2 | apply TD_q3) | ((with_reducible (first | apply TD_q0y | apply TD_q1y)); exact rfl; exact rfl; (with_reducible exact rfl))); (first | ((with_reducible apply QS_eqlNil); exact rfl; exact rfl) | exact QS.auto); exact rfl) | (refine GO ?_) | (refine GOE ?_; (first | (rintro _ _ ⟨rfl, rfl⟩) | (rintro _ _ ⟨g, rfl, rfl⟩) | (rintro _ _ ⟨A', c', rfl, rfl⟩))) | ((refine GO2 ?_ ?_) <;> intro h <;> (try (repeat (first | with_reducible (replace h := of_decide_eq_true h) | with_reducible (replace h := of_decide_eq_false h) | with_reducible (replace h := bnt h) | with_reducible (replace h := bnf h) | with_reducible (replace h := Int.not_lt.mp h) | with_reducible (replace h := Int.not_le.mp h) | with_reducible (replace h := band_dec h) | with_reducible (replace h := band_decF h) | with_reducible (replace h := bor_dec h) | with_reducible (replace h := bor_decF h)))) <;> (try (exfalso; first | contradiction | omega))) | ((with_reducible (first | apply TD_e2z | apply TD_e3z | apply TL_e | apply TD_e2 | apply TD_e3)); ((with_reducible apply ES_callOwn (f := 17)); exact rfl; (intro w hw; exact hpt w (hw.rd rfl hA)); exact rfl); (first | exact rfl | exact ⟨rfl, rfl, rfl⟩); (rintro _ _ ⟨A1, c1, rfl, rfl⟩); (try refine ⟨SUB, ?_⟩)) | ((with_reducible (first | apply TD_e2z | apply TD_e3z | apply TL_e | apply TD_e2 | apply TD_e3)); ((with_reducible apply ES_callOwn (f := 18)); exact rfl; (intro w hw; exact hck w (hw.rd rfl hA)); exact rfl); (first | exact rfl | exact ⟨rfl, rfl, rfl⟩); (rintro _ _ ⟨A2, c2, rfl, rfl⟩); (try refine ⟨SUB, ?_⟩)) | ((with_reducible (first | apply TD_e2z | apply TD_e3z | apply TL_e | apply TD_e2 | apply TD_e3)); ((with_reducible apply ES_callOwn (f := 19)); exact rfl; (intro w hw; exact hco _ 1 w (RdInt.of_list (l := [4]) (hw.theBlk (by first | ((repeat (first | with_reducible exact List.mem_cons_self | with_reducible apply List.mem_cons_of_mem)); done) | (repeat (first | exact List.Mem.head _ | apply List.Mem.tail))))) (hw.rd rfl hA)); exact rfl); (first | exact rfl | exact ⟨rfl, rfl, rfl⟩); (rintro _ _ ⟨A3, c3, rfl, rfl⟩); (try refine ⟨SUB, ?_⟩)) | ((with_reducible (first | apply TD_e2z | apply TD_e3z | apply TL_e | apply TD_e2 | apply TD_e3)); ((with_reducible apply ES_callV (f := 9)); exact rfl; (intro w hw; exact heq0 _ _ w); exact rfl); (first | exact rfl | exact ⟨rfl, rfl, rfl⟩); (rintro _ _ ⟨rfl, rfl⟩); (try refine ⟨SUB, ?_⟩)) | fail)
    all_goals first | (exfalso; omega) | skip
    refine T_loop (X := Unit) (fun _ => [(15, .int .i64 1), (14, .slice none 0 0), (11, .int .i64 z), (9, .slice A3 cs.length c3), (8, .int .i64 z), (7, .slice A2 0 c2)]) (fun _ => []) (fun _ => True) (fun _ => 0) () trivial (by (repeat (first | exact SubE.nil _ | refine SubE.cons rfl ?_))) (by exact SUBS) ?_
    rintro _ _
    repeat' (first | ((first | with_reducible (first | apply TL_q | apply TD_q0 | apply TD_q1 | apply TD_q2 | apply TD_q3) | ((with_reducible (first | apply TD_q0y | apply TD_q1y)); exact rfl; exact rfl; (with_reducible exact rfl))); (first | ((with_reducible apply QS_eqlNil); exact rfl; exact rfl) | exact QS.auto); exact rfl) | (refine GO ?_) | (refine GOE ?_; (first | (rintro _ _ ⟨rfl, rfl⟩) | (rintro _ _ ⟨g, rfl, rfl⟩) | (rintro _ _ ⟨A', c', rfl, rfl⟩))) | ((refine GO2 ?_ ?_) <;> intro h <;> (try (repeat (first | with_reducible (replace h := of_decide_eq_true h) | with_reducible (replace h := of_decide_eq_false h) | with_reducible (replace h := bnt h) | with_reducible (replace h := bnf h) | with_reducible (replace h := Int.not_lt.mp h) | with_reducible (replace h := Int.not_le.mp h) | with_reducible (replace h := band_dec h) | with_reducible (replace h := band_decF h) | with_reducible (replace h := bor_dec h) | with_reducible (replace h := bor_decF h)))) <;> (try (exfalso; first | contradiction | omega))) | fail)
    all_goals first | (exfalso; omega) | skip
    all_goals ((refine At_ret Try.results5 rfl (fun w' hw => ?_)); exact ⟨by simp [resVal], hw.below0 rfl⟩)
end

open Go.ChangeShapes Go.WideShapes Go.ChangeAt Go.Deep in
set_option maxRecDepth 100000 in
theorem bagsSay_contract (H : Type) (enc : TypeId × Value → H) (W : World) (base : Nat) (args : Array Value) (ds gs : List (DataW H)) (before : List MemPlace)
    (hval : ∀ (j : Nat) t v, Try.f5.params[j]? = some t → args[j]? = some v → Value.okWide Try.prog W .any base t v)
    (hW : DataW.Whole enc Try.prog Try.f5.params.toList Rows.bagsSaySpec.vars false W args.toList ds gs before) :
    Calls Try.prog 5 args W fun e W' => ∃ v, e = .returned v ∧ Rows.bagsSaySpec.post enc Try.prog Try.f5 false true false false W args v W' := by
  have hW' := hW
  obtain ⟨p, q, hA, -, -, -, -⟩ := hW
  rw [Try.params5] at hA hval
  obtain ⟨v1, vs1, d1, ds1, p1, q1, hargs1, rfl, rfl, h1, r1⟩ := trodAll_cons hA
  obtain ⟨v2, vs2, d2, ds2, p2, q2, hargs2, rfl, rfl, h2, r2⟩ := trodAll_cons r1
  obtain ⟨rfl, rfl, rfl⟩ := trodAll_nil r2
  obtain rfl : args = #[v1, v2] := by cases args; simp_all
  obtain ⟨B, m, d, rfl⟩ := okWide_slice Try.underlying24 (hval 0 _ _ rfl rfl)
  obtain ⟨n, rfl⟩ := okWide_int Try.underlying3 (hval 1 _ _ rfl rfl)
  obtain ⟨fuel1, hf1⟩ := h1
  obtain ⟨B', len1, cap1, Z1, hcs1, hlen1, hlc1, hZ1⟩ := open_int_rows Try.underlying24 Try.underlying34 (by kernel_rfl) (by kernel_rfl) Try.underlying3 (by kernel_rfl) hf1
  have hcs1' : B = B' ∧ m = len1 ∧ d = cap1 := by simpa [Value.cells] using hcs1
  obtain ⟨rfl, rfl, rfl⟩ := hcs1'
  have hl1 : ((List.range m).map fun i => (⟨Z1 i 0, Z1 i 1, Z1 i 2, Z1 i 3⟩ : Ev)).length = m := by simp
  have hR1 : RdEv W B ((List.range m).map fun i => (⟨Z1 i 0, Z1 i 1, Z1 i 2, Z1 i 3⟩ : Ev)) :=
    rdE_of_rows (fun z => (⟨z 0, z 1, z 2, z 3⟩ : Ev)) Ev.enc (by decide) (fun z j v hv => by
      match j, hv with
      | 0, hv => exact ⟨by decide, by simpa [Ev.enc] using hv.symm⟩
      | 1, hv => exact ⟨by decide, by simpa [Ev.enc] using hv.symm⟩
      | 2, hv => exact ⟨by decide, by simpa [Ev.enc] using hv.symm⟩
      | 3, hv => exact ⟨by decide, by simpa [Ev.enc] using hv.symm⟩
      | j + 4, hv => simp [Ev.enc] at hv) hZ1
  unfold maxLen at hlen1
  have hcall : Calls Try.prog 5 #[.slice B m d, .int .i64 n] W fun e W' => e = .returned (.bool true) ∧ Below W.heap.size W W' := by
    generalize ((List.range m).map fun i => (⟨Z1 i 0, Z1 i 1, Z1 i 2, Z1 i 3⟩ : Ev)) = l at *
    subst hl1
    exact bagsSay_any B d l n W (by omega) hR1
  refine hcall.mono fun e W' ⟨he, hb⟩ => ⟨_, he, ?_⟩
  exact law_post laidOut (by kernel_rfl) rfl rfl Try.underlying4 hW' (fun _ => by subst_vars; rfl) hb

open Go.ChangeShapes Go.WideShapes Go.ChangeAt Go.Deep in
set_option maxRecDepth 100000 in
theorem bagsSay_lifted (os : Os) (started : os.Started) (H : Type) (enc : TypeId × Value → H) :
    ReturnsInHanded {} Try.checked os 5 .any (Rows.bagsSaySpec.pre6 enc Try.prog Try.f5 Rows.bagsSayRow.domain false) (Rows.bagsSaySpec.post enc Try.prog Try.f5 false true false false) := by
  refine returnsInHanded_of_change (C := Try.checked) own started (by kernel_rfl) Try.func5
    (ChangeSpec.witness6 (enc := enc) (C := Try.checked) false ⟨#[], #[.slice none 0 0, .int .i64 0], []⟩ 8 (by kernel_rfl) (by kernel_rfl) (by kernel_rfl) (by kernel_rfl)) ?_
  intro W base args ds gs before hval hW _ _
  exact bagsSay_contract H enc W base args ds gs before hval hW
theorem bagsSay_holds : Rows.BagsSaySaid :=
  OpenClaim.holds_of_wide 5 Try.f5 rfl rfl rfl rfl rfl rfl rfl ⟨rfl, rfl, rfl, rfl, rfl⟩ rfl rfl rfl rfl rfl (by kernel_rfl) Try.func5 (by kernel_rfl)
    (of_decide_eq_true (by kernel_rfl)) (by unfold Func.isWrapper; first | (rw [if_pos (by decide +kernel)]; kernel_rfl) | (rw [if_neg (by decide +kernel)]; exact ⟨rfl, rfl⟩))
    (fun os started H enc _ => bagsSay_lifted os started H enc)
#print axioms bagsSay_holds
end Go.Proofs.Ytaonijdhmgcbjaa
