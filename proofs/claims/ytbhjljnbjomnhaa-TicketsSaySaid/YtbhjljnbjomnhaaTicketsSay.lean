/- The law TicketsSay: Check and Order answer what the document says. No condition. -/
import Derived.Test.YtbhjljnbjomnhaaG11
import Derived.Test.YtbhjljnbjomnhaaG13
import Derived.Test.YtbhjljnbjomnhaaG14
import Derived.Test.YtbhjljnbjomnhaaG10
set_option linter.unusedSimpArgs false
set_option linter.unusedVariables false
set_option linter.unusedSectionVars false
set_option linter.unnecessarySimpa false
namespace Go.Proofs.Ytbhjljnbjomnhaa
open Go.RowKit

section
variable (B0 : Option Addr) (d0 : Nat) (l : List Ev) (w : World) (hl : l.length ≤ 9223372036854775807) (hA : RdEv w B0 l)
include hl hA
set_option maxRecDepth 100000 in
set_option maxHeartbeats 8000000 in
theorem ticketsSay_any : Calls Try.prog 4 #[.slice B0 l.length d0] w fun e w' => e = .returned (.bool true) ∧ Below w.heap.size w w' := by
  have hck := fun w h => tkCheckA_any B0 d0 l w hl h
  have hor := fun w h => tkOrder_any B0 d0 l w hl h
  have hcf := fun A w h1 h2 => callsOf_any A B0 1 d0 [5] l w (by decide) hl h1 h2
  unfold tkR at hck
  unfold ordR at hor
  by_cases h : (callsR [5] l).2.2 = 0
  · have hok := tkOk_of h
    rw [if_pos h] at hck hor
    obtain ⟨cs, y, z, hcr⟩ : ∃ cs y z, callsR [5] l = (cs, y, z) := ⟨_, _, _, rfl⟩
    rw [hcr] at hck hor hcf hok h
    dsimp only at hck hor hcf hok h
    subst h
    clear hcr
    have hnum := fun A ca w h1 h2 => numbered_any A ca cs w h1 hok h2
    have hgap := gap_of (cs := cs)
    have hnb := numT_bd hok
    unfold numR at hnum
    by_cases hk : (checkT cs).kind = 0
    · rw [if_pos hk] at hor hnum
      rw [(hgap hk).2.2] at hck hnum
      clear hgap hk
      rw [show Bd.enc ⟨0, 0, 0⟩ = [.int .i64 0, .int .i64 0, .int .i64 0] from rfl] at *
      have hnlen : (numsT cs).length = numT cs := by simp [numsT]
      have hwl := wantL_len cs (numT cs)
      have hat := fun n (h : n < numT cs) => numsT_at h
      have heq := fun A B c d w' h1 h2 => equalStp_any A B c d (wantL cs (numT cs)) (wantL cs (numT cs)) w' (by omega) (by omega) h1 h2
      dsimp only at hck hor
      refine calls_T (S := []) [] Try.func4 rfl Try.ntmps4 (by simp) (Mem.nil _) ?_
      repeat' (first | ((first | with_reducible (first | apply TL_q | apply TD_q0 | apply TD_q1 | apply TD_q2 | apply TD_q3) | ((with_reducible (first | apply TD_q0y | apply TD_q1y)); exact rfl; exact rfl; (with_reducible exact rfl))); (first | ((with_reducible apply QS_neqBd); exact rfl; exact rfl) | ((with_reducible apply QS_eqlBd); exact rfl; exact rfl) | exact QS.auto); exact rfl) | (refine GO ?_) | (refine GOE ?_; (first | (rintro _ _ ⟨rfl, rfl⟩) | (rintro _ _ ⟨g, rfl, rfl⟩) | (rintro _ _ ⟨A', c', rfl, rfl⟩))) | ((refine GO2 ?_ ?_) <;> intro h <;> (try (repeat (first | with_reducible (replace h := of_decide_eq_true h) | with_reducible (replace h := of_decide_eq_false h) | with_reducible (replace h := bnt h) | with_reducible (replace h := bnf h) | with_reducible (replace h := Int.not_lt.mp h) | with_reducible (replace h := Int.not_le.mp h) | with_reducible (replace h := band_dec h) | with_reducible (replace h := band_decF h) | with_reducible (replace h := bor_dec h) | with_reducible (replace h := bor_decF h)))) <;> (try (exfalso; first | contradiction | omega))) | ((with_reducible (first | apply TD_e2z | apply TD_e3z | apply TL_e | apply TD_e2 | apply TD_e3)); ((with_reducible apply ES_callV (f := 17)); exact rfl; (intro w hw; exact hck w (hw.rd rfl hA)); exact rfl); (first | exact rfl | exact ⟨rfl, rfl, rfl⟩); (rintro _ _ ⟨rfl, rfl⟩); (try refine ⟨SUB, ?_⟩)) | ((with_reducible (first | apply TD_e2z | apply TD_e3z | apply TL_e | apply TD_e2 | apply TD_e3)); ((with_reducible apply ES_callOwn (f := 18)); exact rfl; (intro w hw; exact hor w (hw.rd rfl hA)); exact rfl); (first | exact rfl | exact ⟨rfl, rfl, rfl⟩); (rintro _ _ ⟨A1, c1, rfl, rfl⟩); (try refine ⟨SUB, ?_⟩)) | fail)
      ((with_reducible refine TL_mem (S' := entOwn intEnc 1 3 (some ⟨g, 0, none⟩) 1 [5] :: _) (fun w hw => Mem.asOwn (enc := intEnc) (M := 1) [5] (Upd.here _ _ _) rfl (fun _ => rfl) (by decide) hw) ?_))
      repeat' (first | ((first | with_reducible (first | apply TL_q | apply TD_q0 | apply TD_q1 | apply TD_q2 | apply TD_q3) | ((with_reducible (first | apply TD_q0y | apply TD_q1y)); exact rfl; exact rfl; (with_reducible exact rfl))); (first | ((with_reducible apply QS_neqBd); exact rfl; exact rfl) | ((with_reducible apply QS_eqlBd); exact rfl; exact rfl) | exact QS.auto); exact rfl) | (refine GO ?_) | (refine GOE ?_; (first | (rintro _ _ ⟨rfl, rfl⟩) | (rintro _ _ ⟨g, rfl, rfl⟩) | (rintro _ _ ⟨A', c', rfl, rfl⟩))) | ((refine GO2 ?_ ?_) <;> intro h <;> (try (repeat (first | with_reducible (replace h := of_decide_eq_true h) | with_reducible (replace h := of_decide_eq_false h) | with_reducible (replace h := bnt h) | with_reducible (replace h := bnf h) | with_reducible (replace h := Int.not_lt.mp h) | with_reducible (replace h := Int.not_le.mp h) | with_reducible (replace h := band_dec h) | with_reducible (replace h := band_decF h) | with_reducible (replace h := bor_dec h) | with_reducible (replace h := bor_decF h)))) <;> (try (exfalso; first | contradiction | omega))) | ((with_reducible (first | apply TD_e2z | apply TD_e3z | apply TL_e | apply TD_e2 | apply TD_e3)); ((with_reducible apply ES_callOwn (f := 19)); exact rfl; (intro w hw; exact hcf (some ⟨g, 0, none⟩) w (hw.ownRd (by first | ((repeat (first | with_reducible exact List.mem_cons_self | with_reducible apply List.mem_cons_of_mem)); done) | (repeat (first | exact List.Mem.head _ | apply List.Mem.tail))) (fun _ => rfl)) (hw.rd rfl hA)); exact rfl); (first | exact rfl | exact ⟨rfl, rfl, rfl⟩); (rintro _ _ ⟨A3, c3, rfl, rfl⟩); (try refine ⟨SUB, ?_⟩)) | fail)
      refine TL_fact (p := cs.length ≤ c3 ∧ (A3 = none → c3 = 0)) (fun w hw => hw.ownFacts (enc := Cl.enc) (M := 7) (et := 43) (by first | ((repeat (first | with_reducible exact List.mem_cons_self | with_reducible apply List.mem_cons_of_mem)); done) | (repeat (first | exact List.Mem.head _ | apply List.Mem.tail)))) fun hf0 => ?_
      have hca := hf0.1
      repeat' (first | ((first | with_reducible (first | apply TL_q | apply TD_q0 | apply TD_q1 | apply TD_q2 | apply TD_q3) | ((with_reducible (first | apply TD_q0y | apply TD_q1y)); exact rfl; exact rfl; (with_reducible exact rfl))); (first | ((with_reducible apply QS_neqBd); exact rfl; exact rfl) | ((with_reducible apply QS_eqlBd); exact rfl; exact rfl) | exact QS.auto); exact rfl) | (refine GO ?_) | (refine GOE ?_; (first | (rintro _ _ ⟨rfl, rfl⟩) | (rintro _ _ ⟨g, rfl, rfl⟩) | (rintro _ _ ⟨A', c', rfl, rfl⟩))) | ((refine GO2 ?_ ?_) <;> intro h <;> (try (repeat (first | with_reducible (replace h := of_decide_eq_true h) | with_reducible (replace h := of_decide_eq_false h) | with_reducible (replace h := bnt h) | with_reducible (replace h := bnf h) | with_reducible (replace h := Int.not_lt.mp h) | with_reducible (replace h := Int.not_le.mp h) | with_reducible (replace h := band_dec h) | with_reducible (replace h := band_decF h) | with_reducible (replace h := bor_dec h) | with_reducible (replace h := bor_decF h)))) <;> (try (exfalso; first | contradiction | omega))) | ((with_reducible (first | apply TD_e2z | apply TD_e3z | apply TL_e | apply TD_e2 | apply TD_e3)); ((with_reducible apply ES_callOwn (f := 20)); exact rfl; (intro w hw; exact hnum A3 c3 w (hw.ownRd (by first | ((repeat (first | with_reducible exact List.mem_cons_self | with_reducible apply List.mem_cons_of_mem)); done) | (repeat (first | exact List.Mem.head _ | apply List.Mem.tail))) (fun _ => rfl)) hca); exact rfl); (first | exact rfl | exact ⟨rfl, rfl, rfl⟩); (rintro _ _ ⟨A4, c4, rfl, rfl⟩); (try refine ⟨SUB, ?_⟩)) | fail)
      refine T_loop (X := Nat × Option Addr × Nat) (fun x => [(88, .int .i64 (x.1 : Nat)), (87, .int .i64 (numsT cs).length), (86, .slice A4 (numsT cs).length c4), (13, .slice x.2.1 (wantL cs x.1).length x.2.2), (6, .slice A1 (wantL cs (numT cs)).length c1), (7, .int .i64 0)])
        (fun x => [entOwn Stp.enc 2 39 x.2.1 x.2.2 (wantL cs x.1), entOwn natEnc 1 3 A4 c4 (numsT cs), entOwn Stp.enc 2 39 A1 c1 (wantL cs (numT cs))]) (fun x => x.1 ≤ numT cs) (fun x => numT cs - x.1) (0, none, 0) (by (try dsimp only); omega) (by (repeat (first | exact SubE.nil _ | refine SubE.cons rfl ?_))) (fun w' hw => by
          show Mem _ w' [entOwn Stp.enc 2 39 none 0 [], entOwn natEnc 1 3 A4 c4 (numsT cs), entOwn Stp.enc 2 39 A1 c1 (wantL cs (numT cs))]
          exact (hw.nilOwn Stp.enc 2 39).sel (by (repeat (first | exact Sel.nil _ | (apply Sel.cons; (repeat (first | with_reducible exact Pick.here _ _ | with_reducible apply Pick.there))))))) ?_
      rintro ⟨n, A5, c5⟩ hn
      dsimp only at hn ⊢
      by_cases hnl : n < numT cs
      · have hnn : n < (numsT cs).length := by rw [hnlen]; exact hnl
        have hwn := wantL_len cs n
        have hsu := wantL_succ cs n
        have hv := hat n hnl
        rw [show (numsT cs).getD n 0 = (numsT cs)[n] by simp [hnn]] at hv
        rw [← hv] at hsu
        refine T_own (enc := natEnc) (ls := numsT cs) (by first | ((repeat (first | with_reducible exact List.mem_cons_self | with_reducible apply List.mem_cons_of_mem)); done) | (repeat (first | exact List.Mem.head _ | apply List.Mem.tail))) (by omega) ?_
        rintro gN rfl
        generalize wantL cs n = O at *
        repeat' (first | ((first | with_reducible (first | apply TL_q | apply TD_q0 | apply TD_q1 | apply TD_q2 | apply TD_q3) | ((with_reducible (first | apply TD_q0y | apply TD_q1y)); exact rfl; exact rfl; (with_reducible exact rfl))); (first | ((with_reducible apply QS_neqBd); exact rfl; exact rfl) | ((with_reducible apply QS_eqlBd); exact rfl; exact rfl) | exact QS.auto); exact rfl) | (refine GO ?_) | (refine GOE ?_; (first | (rintro _ _ ⟨rfl, rfl⟩) | (rintro _ _ ⟨g, rfl, rfl⟩) | (rintro _ _ ⟨A', c', rfl, rfl⟩))) | ((refine GO2 ?_ ?_) <;> intro h <;> (try (repeat (first | with_reducible (replace h := of_decide_eq_true h) | with_reducible (replace h := of_decide_eq_false h) | with_reducible (replace h := bnt h) | with_reducible (replace h := bnf h) | with_reducible (replace h := Int.not_lt.mp h) | with_reducible (replace h := Int.not_le.mp h) | with_reducible (replace h := band_dec h) | with_reducible (replace h := band_decF h) | with_reducible (replace h := bor_dec h) | with_reducible (replace h := bor_decF h)))) <;> (try (exfalso; first | contradiction | omega))) | ((with_reducible (first | apply TD_e2z | apply TD_e3z | apply TL_e | apply TD_e2 | apply TD_e3)); ((with_reducible apply ES_append1 (enc := Stp.enc) (xx := ⟨((numsT cs)[n] : Nat), (n : Int)⟩)); exact rfl; exact rfl; (repeat (first | with_reducible exact List.mem_cons_self | with_reducible apply List.mem_cons_of_mem)); exact rfl; exact fun _ => rfl; exact fun _ => rfl; (intro A' c'; first | ((repeat (first | with_reducible exact Upd.here _ _ _ | with_reducible apply Upd.there)); done) | (repeat (first | exact Upd.here _ _ _ | apply Upd.there))); (omega); decide; exact rfl); (first | exact rfl | exact ⟨rfl, rfl, rfl⟩); (rintro _ _ ⟨A', c', rfl, rfl⟩); (try refine ⟨SUB, ?_⟩)) | fail)
        apply At_rounds (n + 1, A', c')
        case hE => (try dsimp only); rw [hsu]; (repeat (first | exact SubE.nil _ | refine SubE.cons rfl ?_))
        case hS => (try dsimp only); rw [hsu]; exact fun w' hw => hw.sel (by (repeat (first | exact Sel.nil _ | (apply Sel.cons; (repeat (first | with_reducible exact Pick.here _ _ | with_reducible apply Pick.there))))))
        case hμ => (try dsimp only); omega
        case hp => (try dsimp only); omega
      · obtain rfl : n = numT cs := by omega
        repeat' (first | ((first | with_reducible (first | apply TL_q | apply TD_q0 | apply TD_q1 | apply TD_q2 | apply TD_q3) | ((with_reducible (first | apply TD_q0y | apply TD_q1y)); exact rfl; exact rfl; (with_reducible exact rfl))); (first | ((with_reducible apply QS_neqBd); exact rfl; exact rfl) | ((with_reducible apply QS_eqlBd); exact rfl; exact rfl) | exact QS.auto); exact rfl) | (refine GO ?_) | (refine GOE ?_; (first | (rintro _ _ ⟨rfl, rfl⟩) | (rintro _ _ ⟨g, rfl, rfl⟩) | (rintro _ _ ⟨A', c', rfl, rfl⟩))) | ((refine GO2 ?_ ?_) <;> intro h <;> (try (repeat (first | with_reducible (replace h := of_decide_eq_true h) | with_reducible (replace h := of_decide_eq_false h) | with_reducible (replace h := bnt h) | with_reducible (replace h := bnf h) | with_reducible (replace h := Int.not_lt.mp h) | with_reducible (replace h := Int.not_le.mp h) | with_reducible (replace h := band_dec h) | with_reducible (replace h := band_decF h) | with_reducible (replace h := bor_dec h) | with_reducible (replace h := bor_decF h)))) <;> (try (exfalso; first | contradiction | omega))) | ((with_reducible (first | apply TD_e2z | apply TD_e3z | apply TL_e | apply TD_e2 | apply TD_e3)); ((with_reducible apply ES_callV (f := 16)); exact rfl; (intro w hw; exact heq A1 A5 c1 c5 w (hw.ownRd (by first | ((repeat (first | with_reducible exact List.mem_cons_self | with_reducible apply List.mem_cons_of_mem)); done) | (repeat (first | exact List.Mem.head _ | apply List.Mem.tail))) (fun _ => rfl)) (hw.ownRd (by first | ((repeat (first | with_reducible exact List.mem_cons_self | with_reducible apply List.mem_cons_of_mem)); done) | (repeat (first | exact List.Mem.head _ | apply List.Mem.tail))) (fun _ => rfl))); exact rfl); (first | exact rfl | exact ⟨rfl, rfl, rfl⟩); (rintro _ _ ⟨rfl, rfl⟩); (try refine ⟨SUB, ?_⟩)) | fail)
        all_goals
          (refine At_ret Try.results4 rfl (fun w' hw => ?_))
          exact ⟨by simp [resVal], hw.below0 rfl⟩
    · rw [if_neg hk] at hor hnum
      obtain ⟨V, hV⟩ : ∃ V, V = checkT cs := ⟨_, rfl⟩
      rw [← hV] at hk hck hnum
      clear hV hgap
      obtain ⟨vk, va, vb⟩ := V
      rw [show Bd.enc ⟨vk, va, vb⟩ = [.int .i64 vk, .int .i64 va, .int .i64 vb] from rfl] at *
      dsimp only at hk hck hor
      rw [decide_eq_false hk] at hck
      refine calls_T (S := []) [] Try.func4 rfl Try.ntmps4 (by simp) (Mem.nil _) ?_
      repeat' (first | ((first | with_reducible (first | apply TL_q | apply TD_q0 | apply TD_q1 | apply TD_q2 | apply TD_q3) | ((with_reducible (first | apply TD_q0y | apply TD_q1y)); exact rfl; exact rfl; (with_reducible exact rfl))); (first | ((with_reducible apply QS_neqBd); exact rfl; exact rfl) | ((with_reducible apply QS_eqlBd); exact rfl; exact rfl) | exact QS.auto); exact rfl) | (refine GO ?_) | (refine GOE ?_; (first | (rintro _ _ ⟨rfl, rfl⟩) | (rintro _ _ ⟨g, rfl, rfl⟩) | (rintro _ _ ⟨A', c', rfl, rfl⟩))) | ((refine GO2 ?_ ?_) <;> intro h <;> (try (repeat (first | with_reducible (replace h := of_decide_eq_true h) | with_reducible (replace h := of_decide_eq_false h) | with_reducible (replace h := bnt h) | with_reducible (replace h := bnf h) | with_reducible (replace h := Int.not_lt.mp h) | with_reducible (replace h := Int.not_le.mp h) | with_reducible (replace h := band_dec h) | with_reducible (replace h := band_decF h) | with_reducible (replace h := bor_dec h) | with_reducible (replace h := bor_decF h)))) <;> (try (exfalso; first | contradiction | omega))) | ((with_reducible (first | apply TD_e2z | apply TD_e3z | apply TL_e | apply TD_e2 | apply TD_e3)); ((with_reducible apply ES_callV (f := 17)); exact rfl; (intro w hw; exact hck w (hw.rd rfl hA)); exact rfl); (first | exact rfl | exact ⟨rfl, rfl, rfl⟩); (rintro _ _ ⟨rfl, rfl⟩); (try refine ⟨SUB, ?_⟩)) | ((with_reducible (first | apply TD_e2z | apply TD_e3z | apply TL_e | apply TD_e2 | apply TD_e3)); ((with_reducible apply ES_callOwn (f := 18)); exact rfl; (intro w hw; exact hor w (hw.rd rfl hA)); exact rfl); (first | exact rfl | exact ⟨rfl, rfl, rfl⟩); (rintro _ _ ⟨A1, c1, rfl, rfl⟩); (try refine ⟨SUB, ?_⟩)) | fail)
      ((with_reducible refine TL_mem (S' := entOwn intEnc 1 3 (some ⟨g, 0, none⟩) 1 [5] :: _) (fun w hw => Mem.asOwn (enc := intEnc) (M := 1) [5] (Upd.here _ _ _) rfl (fun _ => rfl) (by decide) hw) ?_))
      repeat' (first | ((first | with_reducible (first | apply TL_q | apply TD_q0 | apply TD_q1 | apply TD_q2 | apply TD_q3) | ((with_reducible (first | apply TD_q0y | apply TD_q1y)); exact rfl; exact rfl; (with_reducible exact rfl))); (first | ((with_reducible apply QS_neqBd); exact rfl; exact rfl) | ((with_reducible apply QS_eqlBd); exact rfl; exact rfl) | exact QS.auto); exact rfl) | (refine GO ?_) | (refine GOE ?_; (first | (rintro _ _ ⟨rfl, rfl⟩) | (rintro _ _ ⟨g, rfl, rfl⟩) | (rintro _ _ ⟨A', c', rfl, rfl⟩))) | ((refine GO2 ?_ ?_) <;> intro h <;> (try (repeat (first | with_reducible (replace h := of_decide_eq_true h) | with_reducible (replace h := of_decide_eq_false h) | with_reducible (replace h := bnt h) | with_reducible (replace h := bnf h) | with_reducible (replace h := Int.not_lt.mp h) | with_reducible (replace h := Int.not_le.mp h) | with_reducible (replace h := band_dec h) | with_reducible (replace h := band_decF h) | with_reducible (replace h := bor_dec h) | with_reducible (replace h := bor_decF h)))) <;> (try (exfalso; first | contradiction | omega))) | ((with_reducible (first | apply TD_e2z | apply TD_e3z | apply TL_e | apply TD_e2 | apply TD_e3)); ((with_reducible apply ES_callOwn (f := 19)); exact rfl; (intro w hw; exact hcf (some ⟨g, 0, none⟩) w (hw.ownRd (by first | ((repeat (first | with_reducible exact List.mem_cons_self | with_reducible apply List.mem_cons_of_mem)); done) | (repeat (first | exact List.Mem.head _ | apply List.Mem.tail))) (fun _ => rfl)) (hw.rd rfl hA)); exact rfl); (first | exact rfl | exact ⟨rfl, rfl, rfl⟩); (rintro _ _ ⟨A3, c3, rfl, rfl⟩); (try refine ⟨SUB, ?_⟩)) | fail)
      refine TL_fact (p := cs.length ≤ c3 ∧ (A3 = none → c3 = 0)) (fun w hw => hw.ownFacts (enc := Cl.enc) (M := 7) (et := 43) (by first | ((repeat (first | with_reducible exact List.mem_cons_self | with_reducible apply List.mem_cons_of_mem)); done) | (repeat (first | exact List.Mem.head _ | apply List.Mem.tail)))) fun hf0 => ?_
      have hca := hf0.1
      repeat' (first | ((first | with_reducible (first | apply TL_q | apply TD_q0 | apply TD_q1 | apply TD_q2 | apply TD_q3) | ((with_reducible (first | apply TD_q0y | apply TD_q1y)); exact rfl; exact rfl; (with_reducible exact rfl))); (first | ((with_reducible apply QS_neqBd); exact rfl; exact rfl) | ((with_reducible apply QS_eqlBd); exact rfl; exact rfl) | exact QS.auto); exact rfl) | (refine GO ?_) | (refine GOE ?_; (first | (rintro _ _ ⟨rfl, rfl⟩) | (rintro _ _ ⟨g, rfl, rfl⟩) | (rintro _ _ ⟨A', c', rfl, rfl⟩))) | ((refine GO2 ?_ ?_) <;> intro h <;> (try (repeat (first | with_reducible (replace h := of_decide_eq_true h) | with_reducible (replace h := of_decide_eq_false h) | with_reducible (replace h := bnt h) | with_reducible (replace h := bnf h) | with_reducible (replace h := Int.not_lt.mp h) | with_reducible (replace h := Int.not_le.mp h) | with_reducible (replace h := band_dec h) | with_reducible (replace h := band_decF h) | with_reducible (replace h := bor_dec h) | with_reducible (replace h := bor_decF h)))) <;> (try (exfalso; first | contradiction | omega))) | ((with_reducible (first | apply TD_e2z | apply TD_e3z | apply TL_e | apply TD_e2 | apply TD_e3)); ((with_reducible apply ES_callOwn (f := 20)); exact rfl; (intro w hw; exact hnum A3 c3 w (hw.ownRd (by first | ((repeat (first | with_reducible exact List.mem_cons_self | with_reducible apply List.mem_cons_of_mem)); done) | (repeat (first | exact List.Mem.head _ | apply List.Mem.tail))) (fun _ => rfl)) hca); exact rfl); (first | exact rfl | exact ⟨rfl, rfl, rfl⟩); (rintro _ _ ⟨A4, c4, rfl, rfl⟩); (try refine ⟨SUB, ?_⟩)) | fail)
      all_goals first
        | (exfalso; clear hck hor hcf hnum; simp_all; done)
        | ((refine At_ret Try.results4 rfl (fun w' hw => ?_)); exact ⟨by simp [resVal], hw.below0 rfl⟩)
  · rw [if_neg h] at hck hor
    obtain ⟨cs, y, er, hcr⟩ : ∃ cs y z, callsR [5] l = (cs, y, z) := ⟨_, _, _, rfl⟩
    rw [hcr] at hck hor hcf h
    dsimp only at hck hor hcf h
    clear hcr
    rw [show Bd.enc ⟨0, 0, 0⟩ = [.int .i64 0, .int .i64 0, .int .i64 0] from rfl] at hck
    refine calls_T (S := []) [] Try.func4 rfl Try.ntmps4 (by simp) (Mem.nil _) ?_
    repeat' (first | ((first | with_reducible (first | apply TL_q | apply TD_q0 | apply TD_q1 | apply TD_q2 | apply TD_q3) | ((with_reducible (first | apply TD_q0y | apply TD_q1y)); exact rfl; exact rfl; (with_reducible exact rfl))); (first | ((with_reducible apply QS_neqBd); exact rfl; exact rfl) | ((with_reducible apply QS_eqlBd); exact rfl; exact rfl) | exact QS.auto); exact rfl) | (refine GO ?_) | (refine GOE ?_; (first | (rintro _ _ ⟨rfl, rfl⟩) | (rintro _ _ ⟨g, rfl, rfl⟩) | (rintro _ _ ⟨A', c', rfl, rfl⟩))) | ((refine GO2 ?_ ?_) <;> intro h <;> (try (repeat (first | with_reducible (replace h := of_decide_eq_true h) | with_reducible (replace h := of_decide_eq_false h) | with_reducible (replace h := bnt h) | with_reducible (replace h := bnf h) | with_reducible (replace h := Int.not_lt.mp h) | with_reducible (replace h := Int.not_le.mp h) | with_reducible (replace h := band_dec h) | with_reducible (replace h := band_decF h) | with_reducible (replace h := bor_dec h) | with_reducible (replace h := bor_decF h)))) <;> (try (exfalso; first | contradiction | omega))) | ((with_reducible (first | apply TD_e2z | apply TD_e3z | apply TL_e | apply TD_e2 | apply TD_e3)); ((with_reducible apply ES_callV (f := 17)); exact rfl; (intro w hw; exact hck w (hw.rd rfl hA)); exact rfl); (first | exact rfl | exact ⟨rfl, rfl, rfl⟩); (rintro _ _ ⟨rfl, rfl⟩); (try refine ⟨SUB, ?_⟩)) | ((with_reducible (first | apply TD_e2z | apply TD_e3z | apply TL_e | apply TD_e2 | apply TD_e3)); ((with_reducible apply ES_callOwn (f := 18)); exact rfl; (intro w hw; exact hor w (hw.rd rfl hA)); exact rfl); (first | exact rfl | exact ⟨rfl, rfl, rfl⟩); (rintro _ _ ⟨A1, c1, rfl, rfl⟩); (try refine ⟨SUB, ?_⟩)) | fail)
    ((with_reducible refine TL_mem (S' := entOwn intEnc 1 3 (some ⟨g, 0, none⟩) 1 [5] :: _) (fun w hw => Mem.asOwn (enc := intEnc) (M := 1) [5] (Upd.here _ _ _) rfl (fun _ => rfl) (by decide) hw) ?_))
    repeat' (first | ((first | with_reducible (first | apply TL_q | apply TD_q0 | apply TD_q1 | apply TD_q2 | apply TD_q3) | ((with_reducible (first | apply TD_q0y | apply TD_q1y)); exact rfl; exact rfl; (with_reducible exact rfl))); (first | ((with_reducible apply QS_neqBd); exact rfl; exact rfl) | ((with_reducible apply QS_eqlBd); exact rfl; exact rfl) | exact QS.auto); exact rfl) | (refine GO ?_) | (refine GOE ?_; (first | (rintro _ _ ⟨rfl, rfl⟩) | (rintro _ _ ⟨g, rfl, rfl⟩) | (rintro _ _ ⟨A', c', rfl, rfl⟩))) | ((refine GO2 ?_ ?_) <;> intro h <;> (try (repeat (first | with_reducible (replace h := of_decide_eq_true h) | with_reducible (replace h := of_decide_eq_false h) | with_reducible (replace h := bnt h) | with_reducible (replace h := bnf h) | with_reducible (replace h := Int.not_lt.mp h) | with_reducible (replace h := Int.not_le.mp h) | with_reducible (replace h := band_dec h) | with_reducible (replace h := band_decF h) | with_reducible (replace h := bor_dec h) | with_reducible (replace h := bor_decF h)))) <;> (try (exfalso; first | contradiction | omega))) | ((with_reducible (first | apply TD_e2z | apply TD_e3z | apply TL_e | apply TD_e2 | apply TD_e3)); ((with_reducible apply ES_callOwn (f := 19)); exact rfl; (intro w hw; exact hcf (some ⟨g, 0, none⟩) w (hw.ownRd (by first | ((repeat (first | with_reducible exact List.mem_cons_self | with_reducible apply List.mem_cons_of_mem)); done) | (repeat (first | exact List.Mem.head _ | apply List.Mem.tail))) (fun _ => rfl)) (hw.rd rfl hA)); exact rfl); (first | exact rfl | exact ⟨rfl, rfl, rfl⟩); (rintro _ _ ⟨A3, c3, rfl, rfl⟩); (try refine ⟨SUB, ?_⟩)) | fail)
    all_goals
      (refine At_ret Try.results4 rfl (fun w' hw => ?_))
      exact ⟨by simp [resVal], hw.below0 rfl⟩
end

open Go.ChangeShapes Go.WideShapes Go.ChangeAt Go.Deep in
set_option maxRecDepth 100000 in
theorem ticketsSay_contract (H : Type) (enc : TypeId × Value → H) (W : World) (base : Nat) (args : Array Value) (ds gs : List (DataW H)) (before : List MemPlace)
    (hval : ∀ (j : Nat) t v, Try.f4.params[j]? = some t → args[j]? = some v → Value.okWide Try.prog W .any base t v)
    (hW : DataW.Whole enc Try.prog Try.f4.params.toList Rows.ticketsSaySpec.vars false W args.toList ds gs before) :
    Calls Try.prog 4 args W fun e W' => ∃ v, e = .returned v ∧ Rows.ticketsSaySpec.post enc Try.prog Try.f4 false true false false W args v W' := by
  have hW' := hW
  obtain ⟨p, q, hA, -, -, -, -⟩ := hW
  rw [Try.params4] at hA hval
  obtain ⟨v1, vs1, d1, ds1, p1, q1, hargs1, rfl, rfl, h1, r1⟩ := trodAll_cons hA
  obtain ⟨rfl, rfl, rfl⟩ := trodAll_nil r1
  obtain rfl : args = #[v1] := by cases args; simp_all
  obtain ⟨B, m, d, rfl⟩ := okWide_slice Try.underlying23 (hval 0 _ _ rfl rfl)
  obtain ⟨fuel1, hf1⟩ := h1
  obtain ⟨B', len1, cap1, Z1, hcs1, hlen1, hlc1, hZ1⟩ := open_int_rows Try.underlying23 Try.underlying86 (by kernel_rfl) (by kernel_rfl) Try.underlying3 (by kernel_rfl) hf1
  have hcs1' : B = B' ∧ m = len1 ∧ d = cap1 := by simpa [Value.cells] using hcs1
  obtain ⟨rfl, rfl, rfl⟩ := hcs1'
  have hl1 : ((List.range m).map fun i => (⟨Z1 i 0, Z1 i 1, Z1 i 2, Z1 i 3⟩ : Ev)).length = m := by simp
  have hR1 : RdEv W B ((List.range m).map fun i => (⟨Z1 i 0, Z1 i 1, Z1 i 2, Z1 i 3⟩ : Ev)) :=
    rdE_of_rows (fun z => (⟨z 0, z 1, z 2, z 3⟩ : Ev)) Ev.enc (by decide) (fun z j v hv => by
      match j, hv with
      | 0, hv => exact ⟨by decide, by simpa [Ev.enc] using hv.symm⟩
      | 1, hv => exact ⟨by decide, by simpa [Ev.enc] using hv.symm⟩
      | 2, hv => exact ⟨by decide, by simpa [Ev.enc] using hv.symm⟩
      | 3, hv => exact ⟨by decide, by simpa [Ev.enc] using hv.symm⟩
      | j + 4, hv => simp [Ev.enc] at hv) hZ1
  unfold maxLen at hlen1
  have hcall : Calls Try.prog 4 #[.slice B m d] W fun e W' => e = .returned (.bool true) ∧ Below W.heap.size W W' := by
    generalize ((List.range m).map fun i => (⟨Z1 i 0, Z1 i 1, Z1 i 2, Z1 i 3⟩ : Ev)) = l at *
    subst hl1
    exact ticketsSay_any B d l W (by omega) hR1
  refine hcall.mono fun e W' ⟨he, hb⟩ => ⟨_, he, ?_⟩
  exact law_post laidOut (by kernel_rfl) rfl rfl Try.underlying4 hW' (fun _ => by subst_vars; rfl) hb

open Go.ChangeShapes Go.WideShapes Go.ChangeAt Go.Deep in
set_option maxRecDepth 100000 in
theorem ticketsSay_lifted (os : Os) (started : os.Started) (H : Type) (enc : TypeId × Value → H) :
    ReturnsInHanded {} Try.checked os 4 .any (Rows.ticketsSaySpec.pre6 enc Try.prog Try.f4 Rows.ticketsSayRow.domain false) (Rows.ticketsSaySpec.post enc Try.prog Try.f4 false true false false) := by
  refine returnsInHanded_of_change (C := Try.checked) own started (by kernel_rfl) Try.func4
    (ChangeSpec.witness6 (enc := enc) (C := Try.checked) false ⟨#[], #[.slice none 0 0], []⟩ 8 (by kernel_rfl) (by kernel_rfl) (by kernel_rfl) (by kernel_rfl)) ?_
  intro W base args ds gs before hval hW _ _
  exact ticketsSay_contract H enc W base args ds gs before hval hW
theorem ticketsSay_holds : Rows.TicketsSaySaid :=
  OpenClaim.holds_of_wide 4 Try.f4 rfl rfl rfl rfl rfl rfl rfl ⟨rfl, rfl, rfl, rfl, rfl⟩ rfl rfl rfl rfl rfl (by kernel_rfl) Try.func4 (by kernel_rfl)
    (of_decide_eq_true (by kernel_rfl)) (by unfold Func.isWrapper; first | (rw [if_pos (by decide +kernel)]; kernel_rfl) | (rw [if_neg (by decide +kernel)]; exact ⟨rfl, rfl⟩))
    (fun os started H enc _ => ticketsSay_lifted os started H enc)
#print axioms ticketsSay_holds
end Go.Proofs.Ytbhjljnbjomnhaa
