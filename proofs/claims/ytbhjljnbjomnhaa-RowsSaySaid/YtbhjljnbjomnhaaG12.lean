/- Lemmas for the walks (Rw4, Rw5). No condition. -/
import Derived.Test.YtbhjljnbjomnhaaG11
set_option linter.unusedSimpArgs false
set_option linter.unusedVariables false
set_option linter.unusedSectionVars false
set_option linter.unnecessarySimpa false
namespace Go.Proofs.Ytbhjljnbjomnhaa
open Go.RowKit

/-- what is so of the items of the list of values -/
theorem valL_ok {cs : List Cl} {n k : Nat} (hn : n ≤ cs.length) (hk : k < (valL cs n).length) : 0 ≤ (valL cs n)[k].enq ∧ (valL cs n)[k].enq < cs.length ∧ -1 ≤ (valL cs n)[k].deq ∧ (valL cs n)[k].deq < cs.length := by
  rw [valL_get hk]
  have h1 := keyQ_mem.1 (List.getElem_mem (l := keyQ cs) (by rw [← valL_len cs n]; exact hk))
  have h2 := ixN_bd cs.length (isPut cs ((keyQ cs)[k]'(by rw [← valL_len cs n]; exact hk) : Nat))
  have h3 := ixN_bd n (isGot cs ((keyQ cs)[k]'(by rw [← valL_len cs n]; exact hk) : Nat))
  exact ⟨h1.2, h2.2, h3.1, by show gotK cs _ n < _; unfold gotK; omega⟩
section
variable (gl : Nat) (A V : Option Addr) (ca cv : Nat) (cs : List Cl) (w : World) (hL : Blk w gl 220 #[.slice A cs.length ca, .slice V (valL cs cs.length).length cv]) (hA : RdE Cl.enc 7 w A cs) (hV : RdE Rvl.enc 3 w V (valL cs cs.length)) (hok : QuOk cs)
include hL hA hV hok
set_option maxRecDepth 100000 in
set_option maxHeartbeats 4000000 in
theorem stays_any : Calls Try.prog 66 #[.pointer (some ⟨gl, 0, none⟩)] w fun e w' => ∃ A' c', e = .returned (.slice A' (stayL cs 1001).length c') ∧ Own Spn.enc 2 63 w' w.heap.size (.slice A' (stayL cs 1001).length c') (stayL cs 1001) ∧ Below w.heap.size w w' := by
  have hl := hL.lt
  have hl0 : w.cell? ⟨gl, 0, none⟩ = some (.slice A cs.length ca) := hL.cell 0
  have hl1 : w.cell? ⟨gl, 1, none⟩ = some (.slice V (valL cs cs.length).length cv) := hL.cell 1
  have hfew := hok.few
  have hkq := keyQ_len hok
  have hvl := valL_len cs cs.length
  have hvo := fun k (hk : k < (valL cs cs.length).length) => valL_ok (Nat.le_refl _) hk
  have hsa := stayC_all cs
  have hss := fun k (hk : k < (valL cs cs.length).length) => stayC_succ (cs := cs) hk
  rw [← hsa]
  clear hsa
  generalize valL cs cs.length = vs at *
  refine calls_T (S := []) [] Try.func66 rfl Try.ntmps66 (by simp) (Mem.nil _) ?_
  repeat' (first | ((first | with_reducible (first | apply TL_q | apply TD_q0 | apply TD_q1 | apply TD_q2 | apply TD_q3) | ((with_reducible (first | apply TD_q0y | apply TD_q1y)); exact rfl; exact rfl; (with_reducible exact rfl))); (first | ((with_reducible apply QS_load); exact rfl; (apply Lds.old; assumption; simp; assumption)) | ((with_reducible apply QS_neqPS); exact rfl; exact rfl) | ((with_reducible apply QS_neqPZ); exact rfl; exact rfl) | ((with_reducible apply QS_eqlPS); exact rfl; exact rfl) | ((with_reducible apply QS_eqlPZ); exact rfl; exact rfl) | exact QS.auto); exact rfl) | (refine GO ?_) | (refine GOE ?_; (first | (rintro _ _ ⟨rfl, rfl⟩) | (rintro _ _ ⟨g, rfl, rfl⟩) | (rintro _ _ ⟨A', c', rfl, rfl⟩))) | ((refine GO2 ?_ ?_) <;> intro h <;> (try (repeat (first | with_reducible (replace h := of_decide_eq_true h) | with_reducible (replace h := of_decide_eq_false h) | with_reducible (replace h := bnt h) | with_reducible (replace h := bnf h) | with_reducible (replace h := Int.not_lt.mp h) | with_reducible (replace h := Int.not_le.mp h) | with_reducible (replace h := band_dec h) | with_reducible (replace h := band_decF h) | with_reducible (replace h := bor_dec h) | with_reducible (replace h := bor_decF h)))) <;> (try (exfalso; first | contradiction | omega))) | fail)
  refine T_loop (X := Nat × Option Addr × Nat) (fun x => [(12, .int .i64 (x.1 : Nat)), (11, .int .i64 vs.length), (10, .slice V vs.length cv), (3, .slice x.2.1 (stayC cs x.1).length x.2.2), (0, .pointer (some ⟨gl, 0, none⟩))]) (fun x => [entOwn Spn.enc 2 63 x.2.1 x.2.2 (stayC cs x.1)])
    (fun x => x.1 ≤ vs.length) (fun x => vs.length - x.1) (0, none, 0) (by (try dsimp only); omega) (by (repeat (first | exact SubE.nil _ | refine SubE.cons rfl ?_))) (fun w' hw => by
      show Mem _ w' [entOwn Spn.enc 2 63 none 0 []]
      exact (hw.nilOwn Spn.enc 2 63).sel (by (repeat (first | exact Sel.nil _ | (apply Sel.cons; (repeat (first | with_reducible exact Pick.here _ _ | with_reducible apply Pick.there))))))) ?_
  rintro ⟨k, A3, c3⟩ hk
  dsimp only at hk ⊢
  have hsl := stayC_len cs k
  by_cases hkl : k < vs.length
  · obtain ⟨h0, h1, h2, h3⟩ := hvo k hkl
    have hsu := hss k hkl
    have hp := clK_eq (cs := cs) (i := vs[k].enq.toNat) (by omega)
    obtain ⟨bV, oV, rfl, _⟩ := RdE.open hV (by omega)
    obtain ⟨bC, oC, rfl, _⟩ := RdE.open hA (by omega)
    unfold stayR at hsu
    rw [hp] at hsu
    generalize stayC cs k = O at *
    by_cases hd : 0 ≤ vs[k].deq
    · have hq := clK_eq (cs := cs) (i := vs[k].deq.toNat) (by omega)
      have hfb := hok.frm vs[k].deq.toNat (by omega)
      rw [if_pos hd, hq] at hsu
      rw [hq] at hfb
      repeat' (first | ((first | with_reducible (first | apply TL_q | apply TD_q0 | apply TD_q1 | apply TD_q2 | apply TD_q3) | ((with_reducible (first | apply TD_q0y | apply TD_q1y)); exact rfl; exact rfl; (with_reducible exact rfl))); (first | ((with_reducible apply QS_load); exact rfl; (apply Lds.old; assumption; simp; assumption)) | ((with_reducible apply QS_neqPS); exact rfl; exact rfl) | ((with_reducible apply QS_neqPZ); exact rfl; exact rfl) | ((with_reducible apply QS_eqlPS); exact rfl; exact rfl) | ((with_reducible apply QS_eqlPZ); exact rfl; exact rfl) | exact QS.auto); exact rfl) | (refine GG ?_) | (refine GE ?_; (first | (rintro _ _ ⟨rfl, rfl⟩) | (rintro _ _ ⟨g, rfl, rfl⟩) | (rintro _ _ ⟨A', c', rfl, rfl⟩)); (try refine ⟨SUB, ?_⟩)) | ((refine GO2 ?_ ?_) <;> intro h <;> (try (repeat (first | with_reducible (replace h := of_decide_eq_true h) | with_reducible (replace h := of_decide_eq_false h) | with_reducible (replace h := bnt h) | with_reducible (replace h := bnf h) | with_reducible (replace h := Int.not_lt.mp h) | with_reducible (replace h := Int.not_le.mp h) | with_reducible (replace h := band_dec h) | with_reducible (replace h := band_decF h) | with_reducible (replace h := bor_dec h) | with_reducible (replace h := bor_decF h)))) <;> (try (exfalso; first | contradiction | omega))) | (refine GOF ?_ ?_) | ((with_reducible apply T_draw (id := 5) 11 (OT.seq [(0, 0), (0, 1), (0, 2), (0, 4), (1, 3), (1, 5), (0, 6), (0, 7), (1, 8), (0, 9), (2, 10), (3, 11)] .nil)); kernel_rfl; exact rfl; kernel_rfl; (repeat (first | with_reducible exact Blind.body | with_reducible apply Blind.seq | with_reducible apply Blind.block))) | ((with_reducible apply T_draw (id := 7) 11 (OT.seq [(0, 0), (0, 1), (0, 2), (0, 4), (1, 3), (1, 5), (0, 6), (0, 7), (1, 8), (0, 9), (0, 10), (3, 11)] .nil)); kernel_rfl; exact rfl; kernel_rfl; (repeat (first | with_reducible exact Blind.body | with_reducible apply Blind.seq | with_reducible apply Blind.block))) | ((with_reducible (first | apply TD_e2z | apply TD_e3z | apply TL_e | apply TD_e2 | apply TD_e3)); ((with_reducible apply ES_append1 (enc := Spn.enc) (xx := ⟨cs[vs[k].enq.toNat].to, cs[vs[k].deq.toNat].from_ - 1⟩)); exact rfl; exact rfl; (repeat (first | with_reducible exact List.mem_cons_self | with_reducible apply List.mem_cons_of_mem)); exact rfl; exact fun _ => rfl; exact fun _ => rfl; (intro A' c'; first | ((repeat (first | with_reducible exact Upd.here _ _ _ | with_reducible apply Upd.there)); done) | (repeat (first | exact Upd.here _ _ _ | apply Upd.there))); (omega); decide; exact rfl); (first | exact rfl | exact ⟨rfl, rfl, rfl⟩); (rintro _ _ ⟨A', c', rfl, rfl⟩); (try refine ⟨SUB, ?_⟩)) | fail)
      all_goals first
        | (rw [if_pos ⟨by omega, by omega⟩] at hsu; simp only [Option.toList_some] at hsu; apply At_rounds (k + 1, A', c'); (case hE => (try dsimp only); rw [hsu]; (repeat (first | exact SubE.nil _ | refine SubE.cons rfl ?_))); (case hS => (try dsimp only); rw [hsu]; exact fun w' hw => hw.sel (by (repeat (first | exact Sel.nil _ | (apply Sel.cons; (repeat (first | with_reducible exact Pick.here _ _ | with_reducible apply Pick.there))))))); (case hμ => (try dsimp only); omega); (case hp => (try dsimp only); omega))
        | (rw [if_neg (by omega)] at hsu; simp only [Option.toList_none, List.append_nil] at hsu; apply At_rounds (k + 1, A3, c3); (case hE => (try dsimp only); rw [hsu]; (repeat (first | exact SubE.nil _ | refine SubE.cons rfl ?_))); (case hS => (try dsimp only); rw [hsu]; exact fun w' hw => hw.sel (by (repeat (first | exact Sel.nil _ | (apply Sel.cons; (repeat (first | with_reducible exact Pick.here _ _ | with_reducible apply Pick.there))))))); (case hμ => (try dsimp only); omega); (case hp => (try dsimp only); omega))
    · rw [if_neg hd] at hsu
      repeat' (first | ((first | with_reducible (first | apply TL_q | apply TD_q0 | apply TD_q1 | apply TD_q2 | apply TD_q3) | ((with_reducible (first | apply TD_q0y | apply TD_q1y)); exact rfl; exact rfl; (with_reducible exact rfl))); (first | ((with_reducible apply QS_load); exact rfl; (apply Lds.old; assumption; simp; assumption)) | ((with_reducible apply QS_neqPS); exact rfl; exact rfl) | ((with_reducible apply QS_neqPZ); exact rfl; exact rfl) | ((with_reducible apply QS_eqlPS); exact rfl; exact rfl) | ((with_reducible apply QS_eqlPZ); exact rfl; exact rfl) | exact QS.auto); exact rfl) | (refine GG ?_) | (refine GE ?_; (first | (rintro _ _ ⟨rfl, rfl⟩) | (rintro _ _ ⟨g, rfl, rfl⟩) | (rintro _ _ ⟨A', c', rfl, rfl⟩)); (try refine ⟨SUB, ?_⟩)) | ((refine GO2 ?_ ?_) <;> intro h <;> (try (repeat (first | with_reducible (replace h := of_decide_eq_true h) | with_reducible (replace h := of_decide_eq_false h) | with_reducible (replace h := bnt h) | with_reducible (replace h := bnf h) | with_reducible (replace h := Int.not_lt.mp h) | with_reducible (replace h := Int.not_le.mp h) | with_reducible (replace h := band_dec h) | with_reducible (replace h := band_decF h) | with_reducible (replace h := bor_dec h) | with_reducible (replace h := bor_decF h)))) <;> (try (exfalso; first | contradiction | omega))) | (refine GOF ?_ ?_) | ((with_reducible apply T_draw (id := 5) 11 (OT.seq [(0, 0), (0, 1), (0, 2), (0, 4), (1, 3), (1, 5), (0, 6), (0, 7), (1, 8), (0, 9), (2, 10), (3, 11)] .nil)); kernel_rfl; exact rfl; kernel_rfl; (repeat (first | with_reducible exact Blind.body | with_reducible apply Blind.seq | with_reducible apply Blind.block))) | ((with_reducible apply T_draw (id := 7) 11 (OT.seq [(0, 0), (0, 1), (0, 2), (0, 4), (1, 3), (1, 5), (0, 6), (0, 7), (1, 8), (0, 9), (0, 10), (3, 11)] .nil)); kernel_rfl; exact rfl; kernel_rfl; (repeat (first | with_reducible exact Blind.body | with_reducible apply Blind.seq | with_reducible apply Blind.block))) | ((with_reducible (first | apply TD_e2z | apply TD_e3z | apply TL_e | apply TD_e2 | apply TD_e3)); ((with_reducible apply ES_append1 (enc := Spn.enc) (xx := ⟨cs[vs[k].enq.toNat].to, 199⟩)); exact rfl; exact rfl; (repeat (first | with_reducible exact List.mem_cons_self | with_reducible apply List.mem_cons_of_mem)); exact rfl; exact fun _ => rfl; exact fun _ => rfl; (intro A' c'; first | ((repeat (first | with_reducible exact Upd.here _ _ _ | with_reducible apply Upd.there)); done) | (repeat (first | exact Upd.here _ _ _ | apply Upd.there))); (omega); decide; exact rfl); (first | exact rfl | exact ⟨rfl, rfl, rfl⟩); (rintro _ _ ⟨A', c', rfl, rfl⟩); (try refine ⟨SUB, ?_⟩)) | fail)
      all_goals first
        | (rw [if_pos ⟨by omega, by omega⟩] at hsu; simp only [Option.toList_some] at hsu; apply At_rounds (k + 1, A', c'); (case hE => (try dsimp only); rw [hsu]; (repeat (first | exact SubE.nil _ | refine SubE.cons rfl ?_))); (case hS => (try dsimp only); rw [hsu]; exact fun w' hw => hw.sel (by (repeat (first | exact Sel.nil _ | (apply Sel.cons; (repeat (first | with_reducible exact Pick.here _ _ | with_reducible apply Pick.there))))))); (case hμ => (try dsimp only); omega); (case hp => (try dsimp only); omega))
        | (rw [if_neg (by omega)] at hsu; simp only [Option.toList_none, List.append_nil] at hsu; apply At_rounds (k + 1, A3, c3); (case hE => (try dsimp only); rw [hsu]; (repeat (first | exact SubE.nil _ | refine SubE.cons rfl ?_))); (case hS => (try dsimp only); rw [hsu]; exact fun w' hw => hw.sel (by (repeat (first | exact Sel.nil _ | (apply Sel.cons; (repeat (first | with_reducible exact Pick.here _ _ | with_reducible apply Pick.there))))))); (case hμ => (try dsimp only); omega); (case hp => (try dsimp only); omega))
  · obtain rfl : k = vs.length := by omega
    repeat' (first | ((first | with_reducible (first | apply TL_q | apply TD_q0 | apply TD_q1 | apply TD_q2 | apply TD_q3) | ((with_reducible (first | apply TD_q0y | apply TD_q1y)); exact rfl; exact rfl; (with_reducible exact rfl))); (first | ((with_reducible apply QS_load); exact rfl; (apply Lds.old; assumption; simp; assumption)) | ((with_reducible apply QS_neqPS); exact rfl; exact rfl) | ((with_reducible apply QS_neqPZ); exact rfl; exact rfl) | ((with_reducible apply QS_eqlPS); exact rfl; exact rfl) | ((with_reducible apply QS_eqlPZ); exact rfl; exact rfl) | exact QS.auto); exact rfl) | (refine GO ?_) | (refine GOE ?_; (first | (rintro _ _ ⟨rfl, rfl⟩) | (rintro _ _ ⟨g, rfl, rfl⟩) | (rintro _ _ ⟨A', c', rfl, rfl⟩))) | ((refine GO2 ?_ ?_) <;> intro h <;> (try (repeat (first | with_reducible (replace h := of_decide_eq_true h) | with_reducible (replace h := of_decide_eq_false h) | with_reducible (replace h := bnt h) | with_reducible (replace h := bnf h) | with_reducible (replace h := Int.not_lt.mp h) | with_reducible (replace h := Int.not_le.mp h) | with_reducible (replace h := band_dec h) | with_reducible (replace h := band_decF h) | with_reducible (replace h := bor_dec h) | with_reducible (replace h := bor_decF h)))) <;> (try (exfalso; first | contradiction | omega))) | fail)
    (refine At_ret Try.results66 rfl (fun w' hw => ?_))
    exact ⟨A3, c3, rfl, hw.ownOut rfl (by first | ((repeat (first | with_reducible exact List.mem_cons_self | with_reducible apply List.mem_cons_of_mem)); done) | (repeat (first | exact List.Mem.head _ | apply List.Mem.tail))), hw.below0 rfl⟩
end
end Go.Proofs.Ytbhjljnbjomnhaa

namespace Go.Proofs.Ytbhjljnbjomnhaa
open Go.RowKit

theorem valL_find2 {cs : List Cl} (hok : QuOk cs) (k : Nat) (n : Int) :
    (putBy cs n < 0 ∧ ∀ r ∈ valL cs k, r.n ≠ n) ∨ (0 ≤ putBy cs n ∧ ∃ q, q < (valL cs k).length ∧ ((valL cs k).getD q default).n = n ∧ (∀ j, j < q → ((valL cs k).getD j default).n ≠ n) ∧ (valL cs k).getD q default = ⟨n, putBy cs n, gotK cs n k⟩) := by
  rcases valL_find hok k n with h | ⟨h, q, hq, hv, hm, _⟩
  · exact .inl h
  · have hl := valL_len cs k
    have hg : ∀ j (hj : j < (keyQ cs).length), (valL cs k).getD j default = valQ cs k (keyQ cs)[j] := fun j hj => by
      rw [List.getD_eq_getElem?_getD, List.getElem?_eq_getElem (by omega), Option.getD_some, valL_get]
    refine .inr ⟨h, q, by omega, by rw [hg q hq]; exact hv, fun j hj => by rw [hg j (by omega)]; exact hm j hj, ?_⟩
    rw [hg q hq]
    unfold valQ
    rw [hv]
section
variable (gl : Nat) (A V : Option Addr) (ca cv : Nat) (cs : List Cl) (w : World) (hL : Blk w gl 220 #[.slice A cs.length ca, .slice V (valL cs cs.length).length cv]) (hA : RdE Cl.enc 7 w A cs) (hV : RdE Rvl.enc 3 w V (valL cs cs.length)) (hok : QuOk cs)
section
variable (fn : Nat) [IsFn Try.prog fn] (cvs : List Value) (Bf : Nat → Bd) (R : Bd)
variable (hp : ∀ i (hi : i < cs.length), cs[i].kind = 4 → cs[i].res ≠ -1 → ∀ w', Below w.heap.size w w' → Calls Try.prog fn (.int .i64 (i : Nat) :: .agg (Cl.enc cs[i]).toArray :: cvs).toArray w' fun e w2 => e = .returned (.agg (Bd.enc (Bf i)).toArray) ∧ Below w'.heap.size w' w2)
variable (hR : R = match firstN cs.length (fun i => decide ((clK cs i).kind = 4) && (decide ((clK cs i).res ≠ -1) && decide ((Bf i).kind ≠ 0))) with | some i => Bf i | none => ⟨0, 0, 0⟩)
include hL hA hok hp hR
set_option maxRecDepth 100000 in
set_option maxHeartbeats 4000000 in
theorem each_any : Calls Try.prog 118 #[.pointer (some ⟨gl, 0, none⟩), .func (.func fn) #[] cvs.toArray] w fun e w' => e = .returned (.agg (Bd.enc R).toArray) ∧ Below w.heap.size w w' := by
  have hl := hL.lt
  have hl0 : w.cell? ⟨gl, 0, none⟩ = some (.slice A cs.length ca) := hL.cell 0
  have hfew := hok.few
  refine calls_T (S := []) [] Try.func118 rfl Try.ntmps118 (by simp) (Mem.nil _) ?_
  repeat' (first | ((first | with_reducible (first | apply TL_q | apply TD_q0 | apply TD_q1 | apply TD_q2 | apply TD_q3) | ((with_reducible (first | apply TD_q0y | apply TD_q1y)); exact rfl; exact rfl; (with_reducible exact rfl))); (first | ((with_reducible apply QS_load); exact rfl; (apply Lds.old; assumption; simp; assumption)) | ((with_reducible apply QS_neqPS); exact rfl; exact rfl) | ((with_reducible apply QS_neqPZ); exact rfl; exact rfl) | ((with_reducible apply QS_eqlPS); exact rfl; exact rfl) | ((with_reducible apply QS_eqlPZ); exact rfl; exact rfl) | exact QS.auto); exact rfl) | (refine GO ?_) | (refine GOE ?_; (first | (rintro _ _ ⟨rfl, rfl⟩) | (rintro _ _ ⟨g, rfl, rfl⟩) | (rintro _ _ ⟨A', c', rfl, rfl⟩))) | ((refine GO2 ?_ ?_) <;> intro h <;> (try (repeat (first | with_reducible (replace h := of_decide_eq_true h) | with_reducible (replace h := of_decide_eq_false h) | with_reducible (replace h := bnt h) | with_reducible (replace h := bnf h) | with_reducible (replace h := Int.not_lt.mp h) | with_reducible (replace h := Int.not_le.mp h) | with_reducible (replace h := band_dec h) | with_reducible (replace h := band_decF h) | with_reducible (replace h := bor_dec h) | with_reducible (replace h := bor_decF h)))) <;> (try (exfalso; first | contradiction | omega))) | fail)
  obtain ⟨gb, rfl⟩ : ∃ x, x = g := ⟨_, rfl⟩
  refine T_loop (X := Nat) (fun k => [(13, .int .i64 (k : Nat)), (12, .int .i64 cs.length), (11, .slice A cs.length ca), (4, .pointer (some ⟨gb, 0, none⟩)), (1, .func (.func fn) #[] cvs.toArray)]) (fun _ => [entBlk gb 48 #[.int .i64 0, .int .i64 0, .int .i64 0]])
    (fun k => k ≤ cs.length ∧ ∀ i, i < k → (decide ((clK cs i).kind = 4) && (decide ((clK cs i).res ≠ -1) && decide ((Bf i).kind ≠ 0))) = false) (fun k => cs.length - k) 0 ⟨by omega, fun i hi => by omega⟩ (by (repeat (first | exact SubE.nil _ | refine SubE.cons rfl ?_))) (by exact SUBS) ?_
  rintro k ⟨hk, hno⟩
  by_cases hkl : k < cs.length
  · obtain ⟨bC, oC, rfl, _⟩ := RdE.open hA (by omega)
    have hck := clK_eq hkl
    have hpk := fun h4 hr w' hb => hp k hkl h4 hr w' hb
    have hat : (decide ((clK cs k).kind = 4) && (decide ((clK cs k).res ≠ -1) && decide ((Bf k).kind ≠ 0))) = true → R = Bf k := fun hb => by rw [hR, firstN_at hkl hno hb]
    have hnx : (decide ((clK cs k).kind = 4) && (decide ((clK cs k).res ≠ -1) && decide ((Bf k).kind ≠ 0))) = false → ∀ i, i < k + 1 → (decide ((clK cs i).kind = 4) && (decide ((clK cs i).res ≠ -1) && decide ((Bf i).kind ≠ 0))) = false := fun hb i hi => (Nat.lt_succ_iff_lt_or_eq.1 hi).elim (fun e => hno i e) (fun e => by subst e; exact hb)
    rw [hck] at hat hnx
    clear hR hp hck
    generalize Bf k = z at hpk hat hnx
    obtain ⟨zk, za, zb⟩ := z
    rw [show Bd.enc ⟨zk, za, zb⟩ = [.int .i64 zk, .int .i64 za, .int .i64 zb] from rfl] at hpk
    by_cases h4 : cs[k].kind = 4
    · by_cases hr : cs[k].res = -1
      · have hnx := hnx (by simp [hr])
        repeat' (first | ((first | with_reducible (first | apply TL_q | apply TD_q0 | apply TD_q1 | apply TD_q2 | apply TD_q3) | ((with_reducible (first | apply TD_q0y | apply TD_q1y)); exact rfl; exact rfl; (with_reducible exact rfl))); (first | ((with_reducible apply QS_load); exact rfl; (apply Lds.old; assumption; simp; assumption)) | ((with_reducible apply QS_neqPS); exact rfl; exact rfl) | ((with_reducible apply QS_neqPZ); exact rfl; exact rfl) | ((with_reducible apply QS_eqlPS); exact rfl; exact rfl) | ((with_reducible apply QS_eqlPZ); exact rfl; exact rfl) | exact QS.auto); exact rfl) | (refine GO ?_) | (refine GOE ?_; (first | (rintro _ _ ⟨rfl, rfl⟩) | (rintro _ _ ⟨g, rfl, rfl⟩) | (rintro _ _ ⟨A', c', rfl, rfl⟩))) | ((refine GO2 ?_ ?_) <;> intro h <;> (try (repeat (first | with_reducible (replace h := of_decide_eq_true h) | with_reducible (replace h := of_decide_eq_false h) | with_reducible (replace h := bnt h) | with_reducible (replace h := bnf h) | with_reducible (replace h := Int.not_lt.mp h) | with_reducible (replace h := Int.not_le.mp h) | with_reducible (replace h := band_dec h) | with_reducible (replace h := band_decF h) | with_reducible (replace h := bor_dec h) | with_reducible (replace h := bor_decF h)))) <;> (try (exfalso; first | contradiction | omega))) | fail)
        exact At_rounds (k + 1) ⟨hkl, hnx⟩ (by omega) (by (repeat (first | exact SubE.nil _ | refine SubE.cons rfl ?_))) (by exact SUBS)
      · have hpk := hpk h4 hr
        repeat' (first | ((first | with_reducible (first | apply TL_q | apply TD_q0 | apply TD_q1 | apply TD_q2 | apply TD_q3) | ((with_reducible (first | apply TD_q0y | apply TD_q1y)); exact rfl; exact rfl; (with_reducible exact rfl))); (first | ((with_reducible apply QS_load); exact rfl; (apply Lds.old; assumption; simp; assumption)) | ((with_reducible apply QS_neqPS); exact rfl; exact rfl) | ((with_reducible apply QS_neqPZ); exact rfl; exact rfl) | ((with_reducible apply QS_eqlPS); exact rfl; exact rfl) | ((with_reducible apply QS_eqlPZ); exact rfl; exact rfl) | exact QS.auto); exact rfl) | (refine GO ?_) | (refine GOE ?_; (first | (rintro _ _ ⟨rfl, rfl⟩) | (rintro _ _ ⟨g, rfl, rfl⟩) | (rintro _ _ ⟨A', c', rfl, rfl⟩))) | ((refine GO2 ?_ ?_) <;> intro h <;> (try (repeat (first | with_reducible (replace h := of_decide_eq_true h) | with_reducible (replace h := of_decide_eq_false h) | with_reducible (replace h := bnt h) | with_reducible (replace h := bnf h) | with_reducible (replace h := Int.not_lt.mp h) | with_reducible (replace h := Int.not_le.mp h) | with_reducible (replace h := band_dec h) | with_reducible (replace h := band_decF h) | with_reducible (replace h := bor_dec h) | with_reducible (replace h := bor_decF h)))) <;> (try (exfalso; first | contradiction | omega))) | ((with_reducible (first | apply TD_e2z | apply TD_e3z | apply TL_e | apply TD_e2 | apply TD_e3)); ((with_reducible apply ES_callFV (f := fn) (us := []) (cs := cvs) (v := .agg #[.int .i64 zk, .int .i64 za, .int .i64 zb])); exact rfl; exact rfl; (intro w' hw; exact hpk w' (hw.below0 rfl)); exact rfl); (first | exact rfl | exact ⟨rfl, rfl, rfl⟩); (rintro _ _ ⟨rfl, rfl⟩); (try refine ⟨SUB, ?_⟩)) | fail)
        · ((with_reducible apply At_retM Try.results118); (repeat (first | exact ResIs.nil | (apply ResIs.tmp; exact rfl) | (apply ResIs.cell; exact rfl; exact Lds.auto))); intro w' hw)
          exact ⟨by rw [hat (by simp [h4, hr, show ¬ zk = 0 by assumption])]; rfl, hw.below0 rfl⟩
        · have hnx := hnx (by simp [show zk = 0 by assumption])
          exact At_rounds (k + 1) ⟨hkl, hnx⟩ (by omega) (by (repeat (first | exact SubE.nil _ | refine SubE.cons rfl ?_))) (by exact SUBS)
    · have hnx := hnx (by simp [h4])
      repeat' (first | ((first | with_reducible (first | apply TL_q | apply TD_q0 | apply TD_q1 | apply TD_q2 | apply TD_q3) | ((with_reducible (first | apply TD_q0y | apply TD_q1y)); exact rfl; exact rfl; (with_reducible exact rfl))); (first | ((with_reducible apply QS_load); exact rfl; (apply Lds.old; assumption; simp; assumption)) | ((with_reducible apply QS_neqPS); exact rfl; exact rfl) | ((with_reducible apply QS_neqPZ); exact rfl; exact rfl) | ((with_reducible apply QS_eqlPS); exact rfl; exact rfl) | ((with_reducible apply QS_eqlPZ); exact rfl; exact rfl) | exact QS.auto); exact rfl) | (refine GO ?_) | (refine GOE ?_; (first | (rintro _ _ ⟨rfl, rfl⟩) | (rintro _ _ ⟨g, rfl, rfl⟩) | (rintro _ _ ⟨A', c', rfl, rfl⟩))) | ((refine GO2 ?_ ?_) <;> intro h <;> (try (repeat (first | with_reducible (replace h := of_decide_eq_true h) | with_reducible (replace h := of_decide_eq_false h) | with_reducible (replace h := bnt h) | with_reducible (replace h := bnf h) | with_reducible (replace h := Int.not_lt.mp h) | with_reducible (replace h := Int.not_le.mp h) | with_reducible (replace h := band_dec h) | with_reducible (replace h := band_decF h) | with_reducible (replace h := bor_dec h) | with_reducible (replace h := bor_decF h)))) <;> (try (exfalso; first | contradiction | omega))) | fail)
      exact At_rounds (k + 1) ⟨hkl, hnx⟩ (by omega) (by (repeat (first | exact SubE.nil _ | refine SubE.cons rfl ?_))) (by exact SUBS)
  · obtain rfl : k = cs.length := by omega
    rw [firstN_none hno] at hR
    subst hR
    repeat' (first | ((first | with_reducible (first | apply TL_q | apply TD_q0 | apply TD_q1 | apply TD_q2 | apply TD_q3) | ((with_reducible (first | apply TD_q0y | apply TD_q1y)); exact rfl; exact rfl; (with_reducible exact rfl))); (first | ((with_reducible apply QS_load); exact rfl; (apply Lds.old; assumption; simp; assumption)) | ((with_reducible apply QS_neqPS); exact rfl; exact rfl) | ((with_reducible apply QS_neqPZ); exact rfl; exact rfl) | ((with_reducible apply QS_eqlPS); exact rfl; exact rfl) | ((with_reducible apply QS_eqlPZ); exact rfl; exact rfl) | exact QS.auto); exact rfl) | (refine GO ?_) | (refine GOE ?_; (first | (rintro _ _ ⟨rfl, rfl⟩) | (rintro _ _ ⟨g, rfl, rfl⟩) | (rintro _ _ ⟨A', c', rfl, rfl⟩))) | ((refine GO2 ?_ ?_) <;> intro h <;> (try (repeat (first | with_reducible (replace h := of_decide_eq_true h) | with_reducible (replace h := of_decide_eq_false h) | with_reducible (replace h := bnt h) | with_reducible (replace h := bnf h) | with_reducible (replace h := Int.not_lt.mp h) | with_reducible (replace h := Int.not_le.mp h) | with_reducible (replace h := band_dec h) | with_reducible (replace h := band_decF h) | with_reducible (replace h := bor_dec h) | with_reducible (replace h := bor_decF h)))) <;> (try (exfalso; first | contradiction | omega))) | fail)
    ((with_reducible apply At_retM Try.results118); (repeat (first | exact ResIs.nil | (apply ResIs.tmp; exact rfl) | (apply ResIs.cell; exact rfl; exact Lds.auto))); intro w' hw)
    exact ⟨rfl, hw.below0 rfl⟩
end
variable (b2 : Nat) (h2 : b2 < w.heap.size) (hc2 : w.cell? ⟨b2, 0, none⟩ = some (.pointer (some ⟨gl, 0, none⟩))) (i : Nat) (hi : i < cs.length)
def strayF (cs : List Cl) (i : Nat) : Bd := if putBy cs (clK cs i).res < 0 then ⟨1, i, 0⟩ else ⟨0, 0, 0⟩
def twiceF (cs : List Cl) (i : Nat) : Bd := if gotBy cs (clK cs i).res = i then ⟨0, 0, 0⟩ else ⟨2, i, gotBy cs (clK cs i).res⟩
def earlyF (cs : List Cl) (i : Nat) : Bd := if (clK cs i).to < (clK cs (putBy cs (clK cs i).res).toNat).from_ then ⟨3, i, putBy cs (clK cs i).res⟩ else ⟨0, 0, 0⟩
include hL hA hV hok h2 hc2 hi
set_option maxRecDepth 100000 in
set_option maxHeartbeats 4000000 in
theorem stray1_any : Calls Try.prog 119 #[.int .i64 (i : Nat), .agg (Cl.enc cs[i]).toArray, .pointer (some ⟨b2, 0, none⟩)] w fun e w' => e = .returned (.agg (Bd.enc (strayF cs i)).toArray) ∧ Below w.heap.size w w' := by
  have hfew := hok.few
  have hkq := keyQ_len hok
  have hvl := valL_len cs cs.length
  have hfd := valL_find2 hok cs.length cs[i].res
  have hck := clK_eq hi
  unfold strayF
  rw [hck]
  clear hck
  have hno := fun n w' (hb : Below w.heap.size w w') h => find_no gl A V cs.length ca cv (valL cs cs.length) n w' (hL.carry hb) (RdE.below hV hb) (by omega) h
  have hye := fun n q p1 p2 p3 b o p4 w' (hb : Below w.heap.size w w') => find_yes gl A V cs.length ca cv (valL cs cs.length) n w' (hL.carry hb) (RdE.below hV hb) (by omega) q p1 p2 p3 b o p4
  generalize valL cs cs.length = vs at *
  refine calls_T (S := []) [] Try.func119 rfl Try.ntmps119 (by simp) (Mem.nil _) ?_
  rcases hfd with ⟨hn, hr⟩ | ⟨hp, q, hq, hq1, hq2, hq3⟩
  · rw [if_pos hn]
    have hfno := fun w' hb => hno cs[i].res w' hb hr
    repeat' (first | ((first | with_reducible (first | apply TL_q | apply TD_q0 | apply TD_q1 | apply TD_q2 | apply TD_q3) | ((with_reducible (first | apply TD_q0y | apply TD_q1y)); exact rfl; exact rfl; (with_reducible exact rfl))); (first | ((with_reducible apply QS_load); exact rfl; (apply Lds.old; assumption; simp; assumption)) | ((with_reducible apply QS_neqPS); exact rfl; exact rfl) | ((with_reducible apply QS_neqPZ); exact rfl; exact rfl) | ((with_reducible apply QS_eqlPS); exact rfl; exact rfl) | ((with_reducible apply QS_eqlPZ); exact rfl; exact rfl) | exact QS.auto); exact rfl) | (refine GO ?_) | (refine GOE ?_; (first | (rintro _ _ ⟨rfl, rfl⟩) | (rintro _ _ ⟨g, rfl, rfl⟩) | (rintro _ _ ⟨A', c', rfl, rfl⟩))) | ((refine GO2 ?_ ?_) <;> intro h <;> (try (repeat (first | with_reducible (replace h := of_decide_eq_true h) | with_reducible (replace h := of_decide_eq_false h) | with_reducible (replace h := bnt h) | with_reducible (replace h := bnf h) | with_reducible (replace h := Int.not_lt.mp h) | with_reducible (replace h := Int.not_le.mp h) | with_reducible (replace h := band_dec h) | with_reducible (replace h := band_decF h) | with_reducible (replace h := bor_dec h) | with_reducible (replace h := bor_decF h)))) <;> (try (exfalso; first | contradiction | omega))) | ((with_reducible (first | apply TD_e2z | apply TD_e3z | apply TL_e | apply TD_e2 | apply TD_e3)); ((with_reducible apply ES_callV (f := 115)); exact rfl; (intro w hw; exact hfno w (hw.below0 rfl)); exact rfl); (first | exact rfl | exact ⟨rfl, rfl, rfl⟩); (rintro _ _ ⟨rfl, rfl⟩); (try refine ⟨SUB, ?_⟩)) | fail)
    ((with_reducible apply At_retM Try.results119); (repeat (first | exact ResIs.nil | (apply ResIs.tmp; exact rfl) | (apply ResIs.cell; exact rfl; exact Lds.auto))); intro w' hw)
    exact ⟨rfl, hw.below0 rfl⟩
  · rw [if_neg (by omega)]
    obtain ⟨bV, oV, rfl, _⟩ := RdE.open hV (by omega)
    have hfye := fun w' hb => hye cs[i].res q hq hq1 hq2 bV oV rfl w' hb
    repeat' (first | ((first | with_reducible (first | apply TL_q | apply TD_q0 | apply TD_q1 | apply TD_q2 | apply TD_q3) | ((with_reducible (first | apply TD_q0y | apply TD_q1y)); exact rfl; exact rfl; (with_reducible exact rfl))); (first | ((with_reducible apply QS_load); exact rfl; (apply Lds.old; assumption; simp; assumption)) | ((with_reducible apply QS_neqPS); exact rfl; exact rfl) | ((with_reducible apply QS_neqPZ); exact rfl; exact rfl) | ((with_reducible apply QS_eqlPS); exact rfl; exact rfl) | ((with_reducible apply QS_eqlPZ); exact rfl; exact rfl) | exact QS.auto); exact rfl) | (refine GO ?_) | (refine GOE ?_; (first | (rintro _ _ ⟨rfl, rfl⟩) | (rintro _ _ ⟨g, rfl, rfl⟩) | (rintro _ _ ⟨A', c', rfl, rfl⟩))) | ((refine GO2 ?_ ?_) <;> intro h <;> (try (repeat (first | with_reducible (replace h := of_decide_eq_true h) | with_reducible (replace h := of_decide_eq_false h) | with_reducible (replace h := bnt h) | with_reducible (replace h := bnf h) | with_reducible (replace h := Int.not_lt.mp h) | with_reducible (replace h := Int.not_le.mp h) | with_reducible (replace h := band_dec h) | with_reducible (replace h := band_decF h) | with_reducible (replace h := bor_dec h) | with_reducible (replace h := bor_decF h)))) <;> (try (exfalso; first | contradiction | omega))) | ((with_reducible (first | apply TD_e2z | apply TD_e3z | apply TL_e | apply TD_e2 | apply TD_e3)); ((with_reducible apply ES_callV (f := 115)); exact rfl; (intro w hw; exact hfye w (hw.below0 rfl)); exact rfl); (first | exact rfl | exact ⟨rfl, rfl, rfl⟩); (rintro _ _ ⟨rfl, rfl⟩); (try refine ⟨SUB, ?_⟩)) | fail)
    ((with_reducible apply At_retM Try.results119); (repeat (first | exact ResIs.nil | (apply ResIs.tmp; exact rfl) | (apply ResIs.cell; exact rfl; exact Lds.auto))); intro w' hw)
    exact ⟨rfl, hw.below0 rfl⟩
set_option maxRecDepth 100000 in
set_option maxHeartbeats 4000000 in
theorem twice1_any (hput : 0 ≤ putBy cs cs[i].res) : Calls Try.prog 120 #[.int .i64 (i : Nat), .agg (Cl.enc cs[i]).toArray, .pointer (some ⟨b2, 0, none⟩)] w fun e w' => e = .returned (.agg (Bd.enc (twiceF cs i)).toArray) ∧ Below w.heap.size w w' := by
  have hfew := hok.few
  have hkq := keyQ_len hok
  have hvl := valL_len cs cs.length
  have hfd := valL_find2 hok cs.length cs[i].res
  have hck := clK_eq hi
  unfold twiceF
  rw [hck]
  clear hck
  have hye := fun n q p1 p2 p3 b o p4 w' (hb : Below w.heap.size w w') => find_yes gl A V cs.length ca cv (valL cs cs.length) n w' (hL.carry hb) (RdE.below hV hb) (by omega) q p1 p2 p3 b o p4
  generalize valL cs cs.length = vs at *
  rcases hfd with ⟨hn, hr⟩ | ⟨hp, q, hq, hq1, hq2, hq3⟩
  · omega
  obtain ⟨bV, oV, rfl, _⟩ := RdE.open hV (by omega)
  have hfye := fun w' hb => hye cs[i].res q hq hq1 hq2 bV oV rfl w' hb
  have hdq : vs[q].deq = gotBy cs cs[i].res := by
    rw [List.getD_eq_getElem?_getD, List.getElem?_eq_getElem hq, Option.getD_some] at hq3
    rw [hq3]; rfl
  rw [← hdq]
  clear hq1 hq2 hq3 hdq
  refine calls_T (S := []) [] Try.func120 rfl Try.ntmps120 (by simp) (Mem.nil _) ?_
  repeat' (first | ((first | with_reducible (first | apply TL_q | apply TD_q0 | apply TD_q1 | apply TD_q2 | apply TD_q3) | ((with_reducible (first | apply TD_q0y | apply TD_q1y)); exact rfl; exact rfl; (with_reducible exact rfl))); (first | ((with_reducible apply QS_load); exact rfl; (apply Lds.old; assumption; simp; assumption)) | ((with_reducible apply QS_neqPS); exact rfl; exact rfl) | ((with_reducible apply QS_neqPZ); exact rfl; exact rfl) | ((with_reducible apply QS_eqlPS); exact rfl; exact rfl) | ((with_reducible apply QS_eqlPZ); exact rfl; exact rfl) | exact QS.auto); exact rfl) | (refine GO ?_) | (refine GOE ?_; (first | (rintro _ _ ⟨rfl, rfl⟩) | (rintro _ _ ⟨g, rfl, rfl⟩) | (rintro _ _ ⟨A', c', rfl, rfl⟩))) | ((refine GO2 ?_ ?_) <;> intro h <;> (try (repeat (first | with_reducible (replace h := of_decide_eq_true h) | with_reducible (replace h := of_decide_eq_false h) | with_reducible (replace h := bnt h) | with_reducible (replace h := bnf h) | with_reducible (replace h := Int.not_lt.mp h) | with_reducible (replace h := Int.not_le.mp h) | with_reducible (replace h := band_dec h) | with_reducible (replace h := band_decF h) | with_reducible (replace h := bor_dec h) | with_reducible (replace h := bor_decF h)))) <;> (try (exfalso; first | contradiction | omega))) | ((with_reducible (first | apply TD_e2z | apply TD_e3z | apply TL_e | apply TD_e2 | apply TD_e3)); ((with_reducible apply ES_callV (f := 115)); exact rfl; (intro w hw; exact hfye w (hw.below0 rfl)); exact rfl); (first | exact rfl | exact ⟨rfl, rfl, rfl⟩); (rintro _ _ ⟨rfl, rfl⟩); (try refine ⟨SUB, ?_⟩)) | fail)
  all_goals
    ((with_reducible apply At_retM Try.results120); (repeat (first | exact ResIs.nil | (apply ResIs.tmp; exact rfl) | (apply ResIs.cell; exact rfl; exact Lds.auto))); intro w' hw)
    first
      | (rw [if_pos (by assumption)]; exact ⟨rfl, hw.below0 rfl⟩)
      | (rw [if_neg (by assumption)]; exact ⟨rfl, hw.below0 rfl⟩)
set_option maxRecDepth 100000 in
set_option maxHeartbeats 4000000 in
theorem early1_any (hput : 0 ≤ putBy cs cs[i].res) : Calls Try.prog 121 #[.int .i64 (i : Nat), .agg (Cl.enc cs[i]).toArray, .pointer (some ⟨b2, 0, none⟩)] w fun e w' => e = .returned (.agg (Bd.enc (earlyF cs i)).toArray) ∧ Below w.heap.size w w' := by
  have hl := hL.lt
  have hl0 : w.cell? ⟨gl, 0, none⟩ = some (.slice A cs.length ca) := hL.cell 0
  have hfew := hok.few
  have hkq := keyQ_len hok
  have hvl := valL_len cs cs.length
  have hfd := valL_find2 hok cs.length cs[i].res
  have hck := clK_eq hi
  have hpb := ixN_bd cs.length (isPut cs cs[i].res)
  unfold earlyF
  rw [hck]
  clear hck
  obtain ⟨P, hP⟩ : ∃ P, putBy cs cs[i].res = P := ⟨_, rfl⟩
  have hpl : P < cs.length := by rw [← hP]; exact hpb.2
  rw [hP] at hput hfd ⊢
  clear hpb hP
  have hpc := clK_eq (cs := cs) (i := P.toNat) (by omega)
  rw [hpc]
  clear hpc
  have hye := fun n q p1 p2 p3 b o p4 w' (hb : Below w.heap.size w w') => find_yes gl A V cs.length ca cv (valL cs cs.length) n w' (hL.carry hb) (RdE.below hV hb) (by omega) q p1 p2 p3 b o p4
  generalize valL cs cs.length = vs at *
  rcases hfd with ⟨hn, hr⟩ | ⟨hp, q, hq, hq1, hq2, hq3⟩
  · omega
  obtain ⟨bV, oV, rfl, _⟩ := RdE.open hV (by omega)
  obtain ⟨bC, oC, rfl, _⟩ := RdE.open hA (by omega)
  have hfye := fun w' hb => hye cs[i].res q hq hq1 hq2 bV oV rfl w' hb
  have hdq : vs[q].enq = P := by
    rw [List.getD_eq_getElem?_getD, List.getElem?_eq_getElem hq, Option.getD_some] at hq3
    rw [hq3]
  clear hq1 hq2 hq3
  subst hdq
  refine calls_T (S := []) [] Try.func121 rfl Try.ntmps121 (by simp) (Mem.nil _) ?_
  repeat' (first | ((first | with_reducible (first | apply TL_q | apply TD_q0 | apply TD_q1 | apply TD_q2 | apply TD_q3) | ((with_reducible (first | apply TD_q0y | apply TD_q1y)); exact rfl; exact rfl; (with_reducible exact rfl))); (first | ((with_reducible apply QS_load); exact rfl; (apply Lds.old; assumption; simp; assumption)) | ((with_reducible apply QS_neqPS); exact rfl; exact rfl) | ((with_reducible apply QS_neqPZ); exact rfl; exact rfl) | ((with_reducible apply QS_eqlPS); exact rfl; exact rfl) | ((with_reducible apply QS_eqlPZ); exact rfl; exact rfl) | exact QS.auto); exact rfl) | (refine GG ?_) | (refine GE ?_; (first | (rintro _ _ ⟨rfl, rfl⟩) | (rintro _ _ ⟨g, rfl, rfl⟩) | (rintro _ _ ⟨A', c', rfl, rfl⟩)); (try refine ⟨SUB, ?_⟩)) | ((refine GO2 ?_ ?_) <;> intro h <;> (try (repeat (first | with_reducible (replace h := of_decide_eq_true h) | with_reducible (replace h := of_decide_eq_false h) | with_reducible (replace h := bnt h) | with_reducible (replace h := bnf h) | with_reducible (replace h := Int.not_lt.mp h) | with_reducible (replace h := Int.not_le.mp h) | with_reducible (replace h := band_dec h) | with_reducible (replace h := band_decF h) | with_reducible (replace h := bor_dec h) | with_reducible (replace h := bor_decF h)))) <;> (try (exfalso; first | contradiction | omega))) | (refine GOF ?_ ?_) | ((with_reducible apply T_draw (id := 2) 1000 (OT.seq [(0, 0), (0, 6), (0, 7), (0, 8), (1, 1), (1, 2), (0, 3), (0, 4), (1, 5), (1, 9), (0, 10), (0, 11), (1, 12), (0, 13)] .nil)); kernel_rfl; exact rfl; kernel_rfl; (repeat (first | with_reducible exact Blind.body | with_reducible apply Blind.seq | with_reducible apply Blind.block))) | ((with_reducible (first | apply TD_e2z | apply TD_e3z | apply TL_e | apply TD_e2 | apply TD_e3)); ((with_reducible apply ES_callV (f := 115)); exact rfl; (intro w hw; exact hfye w (hw.below0 rfl)); exact rfl); (first | exact rfl | exact ⟨rfl, rfl, rfl⟩); (rintro _ _ ⟨rfl, rfl⟩); (try refine ⟨SUB, ?_⟩)) | fail)
  all_goals
    ((with_reducible apply At_retM Try.results121); (repeat (first | exact ResIs.nil | (apply ResIs.tmp; exact rfl) | (apply ResIs.cell; exact rfl; exact Lds.auto))); intro w' hw)
    first
      | (rw [if_pos (by assumption)]; exact ⟨rfl, hw.below0 rfl⟩)
      | (rw [if_neg (by omega)]; exact ⟨rfl, hw.below0 rfl⟩)
end
end Go.Proofs.Ytbhjljnbjomnhaa
