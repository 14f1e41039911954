/- The law ZonesSay: Zones and Check answer what the document says. No condition. -/
import Derived.Test.YtaonijdhmgcbjaaG10
import Derived.Test.YtaonijdhmgcbjaaG13
import Derived.Test.YtaonijdhmgcbjaaG14
set_option linter.unusedSimpArgs false
set_option linter.unusedVariables false
set_option linter.unusedSectionVars false
set_option linter.unnecessarySimpa false
namespace Go.Proofs.Ytaonijdhmgcbjaa
open Go.RowKit

theorem pairsV_zero {Z : List Zon} (h : (pairsV Z).kind = 0) : pairsV Z = ⟨0, 0, 0⟩ := by
  unfold pairsV at h ⊢
  cases e1 : firstP Z.length (fun _ => Z.length) (crossB Z) with
  | some x =>
    obtain ⟨i, k⟩ := x
    rw [e1] at h
    exact absurd h (by simp)
  | none =>
    rw [e1] at h
    dsimp only at h ⊢
    cases e2 : firstP Z.length (fun _ => Z.length) (insideB Z) with
    | some x =>
      obtain ⟨i, k⟩ := x
      rw [e2] at h
      exact absurd h (by simp)
    | none => rfl
theorem zonesV_zero {cs : List Cl} (h : (zonesV cs).kind = 0) : zonesV cs = ⟨0, 0, 0⟩ := by
  unfold zonesV at h ⊢
  split at h
  · rename_i h1; exact absurd h h1
  · rename_i h1
    rw [if_neg h1]
    exact pairsV_zero h
section
variable (B0 : Option Addr) (d0 : Nat) (l : List Ev) (w : World) (hl : l.length ≤ 9223372036854775807) (hA : RdEv w B0 l)
include hl hA
set_option maxRecDepth 100000 in
set_option maxHeartbeats 8000000 in
theorem zonesSay_any : Calls Try.prog 4 #[.slice B0 l.length d0] w fun e w' => e = .returned (.bool true) ∧ Below w.heap.size w w' := by
  have hck := fun w h => zcheck_any B0 d0 l w hl h
  have hzo := fun w h => zones_any B0 d0 l w hl h
  have hon := fun w h => onceWritten_any B0 d0 l w hl h
  have hoc := wonce_ok (l := l)
  unfold zcV at hck
  unfold zsV at hzo
  by_cases h : (wonceR l).2 = 0
  · rw [if_pos h] at hck hzo
    have hok := hoc h
    clear hoc
    rw [decide_eq_true h, Bool.true_and] at hck
    obtain ⟨cs, er, hcr⟩ : ∃ cs z, wonceR l = (cs, z) := ⟨_, _, rfl⟩
    rw [hcr] at hck hzo hon hok h
    dsimp only at hck hzo hon hok h
    subst h
    clear hcr
    have hwz := wrBy_zero hok.toRgAll
    have hbr := fun A ca w h1 => badZones_any A ca cs w hok.few h1 hok
    have hzf := fun A ca (v : Nat) w h1 => zoneOf_any A ca cs w hok.few h1 (v : Int) hwz
    have hz := zonesV_zero (cs := cs)
    have hsl := zonL_len cs
    have hss := zonL_succ cs
    have heq := fun A B c d w' h1 h2 => equalZnq_any A B c d (zonL cs 1001) (zonL cs 1001) w' (by have := hsl 1001; omega) (by have := hsl 1001; omega) h1 h2
    generalize zonesV cs = V at *
    obtain ⟨vk, va, vb⟩ := V
    rw [show Bd.enc ⟨vk, va, vb⟩ = [.int .i64 vk, .int .i64 va, .int .i64 vb] from rfl] at *
    dsimp only at hck hz
    refine calls_T (S := []) [] Try.func4 rfl Try.ntmps4 (by simp) (Mem.nil _) ?_
    repeat' (first | ((first | with_reducible (first | apply TL_q | apply TD_q0 | apply TD_q1 | apply TD_q2 | apply TD_q3) | ((with_reducible (first | apply TD_q0y | apply TD_q1y)); exact rfl; exact rfl; (with_reducible exact rfl))); (first | ((with_reducible apply QS_neqBd); exact rfl; exact rfl) | ((with_reducible apply QS_eqlBd); exact rfl; exact rfl) | exact QS.auto); exact rfl) | (refine GO ?_) | (refine GOE ?_; (first | (rintro _ _ ⟨rfl, rfl⟩) | (rintro _ _ ⟨g, rfl, rfl⟩) | (rintro _ _ ⟨A', c', rfl, rfl⟩))) | ((refine GO2 ?_ ?_) <;> intro h <;> (try (repeat (first | with_reducible (replace h := of_decide_eq_true h) | with_reducible (replace h := of_decide_eq_false h) | with_reducible (replace h := bnt h) | with_reducible (replace h := bnf h) | with_reducible (replace h := Int.not_lt.mp h) | with_reducible (replace h := Int.not_le.mp h) | with_reducible (replace h := band_dec h) | with_reducible (replace h := band_decF h) | with_reducible (replace h := bor_dec h) | with_reducible (replace h := bor_decF h)))) <;> (try (exfalso; first | contradiction | omega))) | ((with_reducible (first | apply TD_e2z | apply TD_e3z | apply TL_e | apply TD_e2 | apply TD_e3)); ((with_reducible apply ES_callOwn (f := 11)); exact rfl; (intro w hw; exact hzo w (hw.rd rfl hA)); exact rfl); (first | exact rfl | exact ⟨rfl, rfl, rfl⟩); (rintro _ _ ⟨A1, c1, rfl, rfl⟩); (try refine ⟨SUB, ?_⟩)) | ((with_reducible (first | apply TD_e2z | apply TD_e3z | apply TL_e | apply TD_e2 | apply TD_e3)); ((with_reducible apply ES_callV (f := 12)); exact rfl; (intro w hw; exact hck w (hw.rd rfl hA)); exact rfl); (first | exact rfl | exact ⟨rfl, rfl, rfl⟩); (rintro _ _ ⟨rfl, rfl⟩); (try refine ⟨SUB, ?_⟩)) | ((with_reducible (first | apply TD_e2z | apply TD_e3z | apply TL_e | apply TD_e2 | apply TD_e3)); ((with_reducible apply ES_callOwn (f := 13)); exact rfl; (intro w hw; exact hon w (hw.rd rfl hA)); exact rfl); (first | exact rfl | exact ⟨rfl, rfl, rfl⟩); (rintro _ _ ⟨A3, c3, rfl, rfl⟩); (try refine ⟨SUB, ?_⟩)) | fail)
    obtain ⟨gb, rfl⟩ : ∃ x, x = g := ⟨_, rfl⟩
    refine T_fact (p := cs.length ≤ c3 ∧ (A3 = none → c3 = 0)) (fun w hw => hw.ownFacts (enc := Cl.enc) (M := 7) (et := 107) (by first | ((repeat (first | with_reducible exact List.mem_cons_self | with_reducible apply List.mem_cons_of_mem)); done) | (repeat (first | exact List.Mem.head _ | apply List.Mem.tail)))) fun hf0 => ?_
    refine T_loop (X := Nat × Option Addr × Nat) (fun x => [(55, .int .i64 (x.1 : Nat)), (10, .slice x.2.1 (zonL cs x.1).length x.2.2), (8, .slice A3 cs.length c3), (7, .int .i64 0), (6, .pointer (some ⟨gb, 0, none⟩)), (5, .bool (decide (vk = 0))), (4, .int .i64 0), (3, .slice A1 (zonL cs 1001).length c1)])
      (fun x => [entOwn Zon.enc 4 50 x.2.1 x.2.2 (zonL cs x.1), entOwn Cl.enc 7 107 A3 c3 cs, entBlk gb 43 #[.int .i64 vk, .int .i64 va, .int .i64 vb], entOwn Zon.enc 4 50 A1 c1 (zonL cs 1001)]) (fun x => x.1 ≤ 1001) (fun x => 1001 - x.1) (0, none, 0) (by (try dsimp only); omega)
      (by (try dsimp only); rw [show (zonL cs 0).length = 0 from rfl]; (repeat (first | exact SubE.nil _ | refine SubE.cons rfl ?_))) (fun w' hw => by
        show Mem _ w' [entOwn Zon.enc 4 50 none 0 [], _, _, _]
        exact (hw.nilOwn Zon.enc 4 50).sel (by (repeat (first | exact Sel.nil _ | (apply Sel.cons; (repeat (first | with_reducible exact Pick.here _ _ | with_reducible apply Pick.there))))))) ?_
    rintro ⟨n, A5, c5⟩ hn
    dsimp only at hn ⊢
    have hwn := hsl n
    by_cases hnl : n < 1001
    · have hsu := hss n
      have hzn := hzf A3 c3 n
      rw [okD_is] at hzn
      have hwu := hsl (n + 1)
      generalize zonL cs n = O at *
      have hnl2 : ((n : Nat) : Int) < 1001 := by omega
      cases hb : (isV cs n && (endZ cs (n : Nat)).some_) with
      | true =>
        rw [if_pos hb] at hsu
        rw [hb, zonD_is hb] at hzn
        rw [hsu, List.length_append, List.length_cons, List.length_nil] at hwu
        generalize zonE cs (n : Nat) = ze at *
        repeat' (first | ((first | with_reducible (first | apply TL_q | apply TD_q0 | apply TD_q1 | apply TD_q2 | apply TD_q3) | ((with_reducible (first | apply TD_q0y | apply TD_q1y)); exact rfl; exact rfl; (with_reducible exact rfl))); (first | ((with_reducible apply QS_neqBd); exact rfl; exact rfl) | ((with_reducible apply QS_eqlBd); exact rfl; exact rfl) | exact QS.auto); exact rfl) | (refine GO ?_) | (refine GOE ?_; (first | (rintro _ _ ⟨rfl, rfl⟩) | (rintro _ _ ⟨g, rfl, rfl⟩) | (rintro _ _ ⟨A', c', rfl, rfl⟩))) | ((refine GO2 ?_ ?_) <;> intro h <;> (try (repeat (first | with_reducible (replace h := of_decide_eq_true h) | with_reducible (replace h := of_decide_eq_false h) | with_reducible (replace h := bnt h) | with_reducible (replace h := bnf h) | with_reducible (replace h := Int.not_lt.mp h) | with_reducible (replace h := Int.not_le.mp h) | with_reducible (replace h := band_dec h) | with_reducible (replace h := band_decF h) | with_reducible (replace h := bor_dec h) | with_reducible (replace h := bor_decF h)))) <;> (try (exfalso; first | contradiction | omega))) | ((with_reducible (first | apply TD_e2z | apply TD_e3z | apply TL_e | apply TD_e2 | apply TD_e3)); ((with_reducible apply ES_callV (f := 14)); exact rfl; (intro w hw; exact hzn w (hw.ownRd (by first | ((repeat (first | with_reducible exact List.mem_cons_self | with_reducible apply List.mem_cons_of_mem)); done) | (repeat (first | exact List.Mem.head _ | apply List.Mem.tail))) (fun _ => rfl))); exact rfl); (first | exact rfl | exact ⟨rfl, rfl, rfl⟩); (rintro _ _ ⟨rfl, rfl⟩); (try refine ⟨SUB, ?_⟩)) | ((with_reducible (first | apply TD_e2z | apply TD_e3z | apply TL_e | apply TD_e2 | apply TD_e3)); ((with_reducible apply ES_append1 (enc := Zon.enc) (xx := ze)); exact rfl; exact rfl; (repeat (first | with_reducible exact List.mem_cons_self | with_reducible apply List.mem_cons_of_mem)); exact rfl; exact fun _ => rfl; exact fun _ => rfl; (intro A' c'; first | ((repeat (first | with_reducible exact Upd.here _ _ _ | with_reducible apply Upd.there)); done) | (repeat (first | exact Upd.here _ _ _ | apply Upd.there))); (omega); decide; exact rfl); (first | exact rfl | exact ⟨rfl, rfl, rfl⟩); (rintro _ _ ⟨A', c', rfl, rfl⟩); (try refine ⟨SUB, ?_⟩)) | fail)
        apply At_rounds (n + 1, A', c')
        case hE => (try dsimp only); rw [hsu]; (repeat (first | exact SubE.nil _ | refine SubE.cons rfl ?_))
        case hS => (try dsimp only); rw [hsu]; exact fun w' hw => hw.sel (by (repeat (first | exact Sel.nil _ | (apply Sel.cons; (repeat (first | with_reducible exact Pick.here _ _ | with_reducible apply Pick.there))))))
        case hμ => (try dsimp only); omega
        case hp => (try dsimp only); omega
      | false =>
        rw [if_neg (by rw [hb]; decide)] at hsu
        rw [hb] at hzn
        repeat' (first | ((first | with_reducible (first | apply TL_q | apply TD_q0 | apply TD_q1 | apply TD_q2 | apply TD_q3) | ((with_reducible (first | apply TD_q0y | apply TD_q1y)); exact rfl; exact rfl; (with_reducible exact rfl))); (first | ((with_reducible apply QS_neqBd); exact rfl; exact rfl) | ((with_reducible apply QS_eqlBd); exact rfl; exact rfl) | exact QS.auto); exact rfl) | (refine GO ?_) | (refine GOE ?_; (first | (rintro _ _ ⟨rfl, rfl⟩) | (rintro _ _ ⟨g, rfl, rfl⟩) | (rintro _ _ ⟨A', c', rfl, rfl⟩))) | ((refine GO2 ?_ ?_) <;> intro h <;> (try (repeat (first | with_reducible (replace h := of_decide_eq_true h) | with_reducible (replace h := of_decide_eq_false h) | with_reducible (replace h := bnt h) | with_reducible (replace h := bnf h) | with_reducible (replace h := Int.not_lt.mp h) | with_reducible (replace h := Int.not_le.mp h) | with_reducible (replace h := band_dec h) | with_reducible (replace h := band_decF h) | with_reducible (replace h := bor_dec h) | with_reducible (replace h := bor_decF h)))) <;> (try (exfalso; first | contradiction | omega))) | ((with_reducible (first | apply TD_e2z | apply TD_e3z | apply TL_e | apply TD_e2 | apply TD_e3)); ((with_reducible apply ES_callV (f := 14)); exact rfl; (intro w hw; exact hzn w (hw.ownRd (by first | ((repeat (first | with_reducible exact List.mem_cons_self | with_reducible apply List.mem_cons_of_mem)); done) | (repeat (first | exact List.Mem.head _ | apply List.Mem.tail))) (fun _ => rfl))); exact rfl); (first | exact rfl | exact ⟨rfl, rfl, rfl⟩); (rintro _ _ ⟨rfl, rfl⟩); (try refine ⟨SUB, ?_⟩)) | fail)
        apply At_rounds (n + 1, A5, c5)
        case hE => (try dsimp only); rw [hsu]; (repeat (first | exact SubE.nil _ | refine SubE.cons rfl ?_))
        case hS => (try dsimp only); rw [hsu]; exact fun w' hw => hw.sel (by (repeat (first | exact Sel.nil _ | (apply Sel.cons; (repeat (first | with_reducible exact Pick.here _ _ | with_reducible apply Pick.there))))))
        case hμ => (try dsimp only); omega
        case hp => (try dsimp only); omega
    · obtain rfl : n = 1001 := by omega
      have hzz : (decide (vk = 0) && (decide (va = 0) && decide (vb = 0))) = decide (vk = 0) := by
        by_cases e : vk = 0
        · have h3 := hz e
          simp only [Bd.mk.injEq] at h3
          simp [h3]
        · simp [e]
      have hbr1 := hbr A3 c3
      repeat' (first | ((first | with_reducible (first | apply TL_q | apply TD_q0 | apply TD_q1 | apply TD_q2 | apply TD_q3) | ((with_reducible (first | apply TD_q0y | apply TD_q1y)); exact rfl; exact rfl; (with_reducible exact rfl))); (first | ((with_reducible apply QS_neqBd); exact rfl; exact rfl) | ((with_reducible apply QS_eqlBd); exact rfl; exact rfl) | exact QS.auto); exact rfl) | (refine GO ?_) | (refine GOE ?_; (first | (rintro _ _ ⟨rfl, rfl⟩) | (rintro _ _ ⟨g, rfl, rfl⟩) | (rintro _ _ ⟨A', c', rfl, rfl⟩))) | ((refine GO2 ?_ ?_) <;> intro h <;> (try (repeat (first | with_reducible (replace h := of_decide_eq_true h) | with_reducible (replace h := of_decide_eq_false h) | with_reducible (replace h := bnt h) | with_reducible (replace h := bnf h) | with_reducible (replace h := Int.not_lt.mp h) | with_reducible (replace h := Int.not_le.mp h) | with_reducible (replace h := band_dec h) | with_reducible (replace h := band_decF h) | with_reducible (replace h := bor_dec h) | with_reducible (replace h := bor_decF h)))) <;> (try (exfalso; first | contradiction | omega))) | ((with_reducible (first | apply TD_e2z | apply TD_e3z | apply TL_e | apply TD_e2 | apply TD_e3)); ((with_reducible apply ES_callV (f := 15)); exact rfl; (intro w hw; exact hbr1 w (hw.ownRd (by first | ((repeat (first | with_reducible exact List.mem_cons_self | with_reducible apply List.mem_cons_of_mem)); done) | (repeat (first | exact List.Mem.head _ | apply List.Mem.tail))) (fun _ => rfl))); exact rfl); (first | exact rfl | exact ⟨rfl, rfl, rfl⟩); (rintro _ _ ⟨rfl, rfl⟩); (try refine ⟨SUB, ?_⟩)) | ((with_reducible (first | apply TD_e2z | apply TD_e3z | apply TL_e | apply TD_e2 | apply TD_e3)); ((with_reducible apply ES_callV (f := 16)); exact rfl; (intro w hw; exact heq A1 A5 c1 c5 w (hw.ownRd (by first | ((repeat (first | with_reducible exact List.mem_cons_self | with_reducible apply List.mem_cons_of_mem)); done) | (repeat (first | exact List.Mem.head _ | apply List.Mem.tail))) (fun _ => rfl)) (hw.ownRd (by first | ((repeat (first | with_reducible exact List.mem_cons_self | with_reducible apply List.mem_cons_of_mem)); done) | (repeat (first | exact List.Mem.head _ | apply List.Mem.tail))) (fun _ => rfl))); exact rfl); (first | exact rfl | exact ⟨rfl, rfl, rfl⟩); (rintro _ _ ⟨rfl, rfl⟩); (try refine ⟨SUB, ?_⟩)) | fail)
      all_goals first
        | (exfalso; simp at h; done)
        | (exfalso; exact h hzz.symm)
        | ((refine At_ret Try.results4 rfl (fun w' hw => ?_)); exact ⟨by simp [resVal, hzz], hw.below0 rfl⟩)
  · rw [if_neg h] at hck hzo
    clear hoc
    rw [decide_eq_false h, Bool.false_and] at hck
    obtain ⟨cs, er, hcr⟩ : ∃ cs z, wonceR l = (cs, z) := ⟨_, _, rfl⟩
    rw [hcr] at hck hzo hon h
    dsimp only at hck hzo hon h
    clear hcr
    rw [show Bd.enc ⟨0, 0, 0⟩ = [.int .i64 0, .int .i64 0, .int .i64 0] from rfl] at hck
    refine calls_T (S := []) [] Try.func4 rfl Try.ntmps4 (by simp) (Mem.nil _) ?_
    repeat' (first | ((first | with_reducible (first | apply TL_q | apply TD_q0 | apply TD_q1 | apply TD_q2 | apply TD_q3) | ((with_reducible (first | apply TD_q0y | apply TD_q1y)); exact rfl; exact rfl; (with_reducible exact rfl))); (first | ((with_reducible apply QS_neqBd); exact rfl; exact rfl) | ((with_reducible apply QS_eqlBd); exact rfl; exact rfl) | exact QS.auto); exact rfl) | (refine GO ?_) | (refine GOE ?_; (first | (rintro _ _ ⟨rfl, rfl⟩) | (rintro _ _ ⟨g, rfl, rfl⟩) | (rintro _ _ ⟨A', c', rfl, rfl⟩))) | ((refine GO2 ?_ ?_) <;> intro h <;> (try (repeat (first | with_reducible (replace h := of_decide_eq_true h) | with_reducible (replace h := of_decide_eq_false h) | with_reducible (replace h := bnt h) | with_reducible (replace h := bnf h) | with_reducible (replace h := Int.not_lt.mp h) | with_reducible (replace h := Int.not_le.mp h) | with_reducible (replace h := band_dec h) | with_reducible (replace h := band_decF h) | with_reducible (replace h := bor_dec h) | with_reducible (replace h := bor_decF h)))) <;> (try (exfalso; first | contradiction | omega))) | ((with_reducible (first | apply TD_e2z | apply TD_e3z | apply TL_e | apply TD_e2 | apply TD_e3)); ((with_reducible apply ES_callOwn (f := 11)); exact rfl; (intro w hw; exact hzo w (hw.rd rfl hA)); exact rfl); (first | exact rfl | exact ⟨rfl, rfl, rfl⟩); (rintro _ _ ⟨A1, c1, rfl, rfl⟩); (try refine ⟨SUB, ?_⟩)) | ((with_reducible (first | apply TD_e2z | apply TD_e3z | apply TL_e | apply TD_e2 | apply TD_e3)); ((with_reducible apply ES_callV (f := 12)); exact rfl; (intro w hw; exact hck w (hw.rd rfl hA)); exact rfl); (first | exact rfl | exact ⟨rfl, rfl, rfl⟩); (rintro _ _ ⟨rfl, rfl⟩); (try refine ⟨SUB, ?_⟩)) | ((with_reducible (first | apply TD_e2z | apply TD_e3z | apply TL_e | apply TD_e2 | apply TD_e3)); ((with_reducible apply ES_callOwn (f := 13)); exact rfl; (intro w hw; exact hon w (hw.rd rfl hA)); exact rfl); (first | exact rfl | exact ⟨rfl, rfl, rfl⟩); (rintro _ _ ⟨A3, c3, rfl, rfl⟩); (try refine ⟨SUB, ?_⟩)) | fail)
    all_goals
      (refine At_ret Try.results4 rfl (fun w' hw => ?_))
      exact ⟨by simp [resVal], hw.below0 rfl⟩
end

open Go.ChangeShapes Go.WideShapes Go.ChangeAt Go.Deep in
set_option maxRecDepth 100000 in
theorem zonesSay_contract (H : Type) (enc : TypeId × Value → H) (W : World) (base : Nat) (args : Array Value) (ds gs : List (DataW H)) (before : List MemPlace)
    (hval : ∀ (j : Nat) t v, Try.f4.params[j]? = some t → args[j]? = some v → Value.okWide Try.prog W .any base t v)
    (hW : DataW.Whole enc Try.prog Try.f4.params.toList Rows.zonesSaySpec.vars false W args.toList ds gs before) :
    Calls Try.prog 4 args W fun e W' => ∃ v, e = .returned v ∧ Rows.zonesSaySpec.post enc Try.prog Try.f4 false true false false W args v W' := by
  have hW' := hW
  obtain ⟨p, q, hA, -, -, -, -⟩ := hW
  rw [Try.params4] at hA hval
  obtain ⟨v1, vs1, d1, ds1, p1, q1, hargs1, rfl, rfl, h1, r1⟩ := trodAll_cons hA
  obtain ⟨rfl, rfl, rfl⟩ := trodAll_nil r1
  obtain rfl : args = #[v1] := by cases args; simp_all
  obtain ⟨B, m, d, rfl⟩ := okWide_slice Try.underlying24 (hval 0 _ _ rfl rfl)
  obtain ⟨fuel1, hf1⟩ := h1
  obtain ⟨B', len1, cap1, Z1, hcs1, hlen1, hlc1, hZ1⟩ := open_int_rows Try.underlying24 Try.underlying34 (by kernel_rfl) (by kernel_rfl) Try.underlying3 (by kernel_rfl) hf1
  have hcs1' : B = B' ∧ m = len1 ∧ d = cap1 := by simpa [Value.cells] using hcs1
  obtain ⟨rfl, rfl, rfl⟩ := hcs1'
  have hl1 : ((List.range m).map fun i => (⟨Z1 i 0, Z1 i 1, Z1 i 2, Z1 i 3⟩ : Ev)).length = m := by simp
  have hR1 : RdEv W B ((List.range m).map fun i => (⟨Z1 i 0, Z1 i 1, Z1 i 2, Z1 i 3⟩ : Ev)) :=
    rdE_of_rows (fun z => (⟨z 0, z 1, z 2, z 3⟩ : Ev)) Ev.enc (by decide) (fun z j v hv => by
      match j, hv with
      | 0, hv => exact ⟨by decide, by simpa [Ev.enc] using hv.symm⟩
      | 1, hv => exact ⟨by decide, by simpa [Ev.enc] using hv.symm⟩
      | 2, hv => exact ⟨by decide, by simpa [Ev.enc] using hv.symm⟩
      | 3, hv => exact ⟨by decide, by simpa [Ev.enc] using hv.symm⟩
      | j + 4, hv => simp [Ev.enc] at hv) hZ1
  unfold maxLen at hlen1
  have hcall : Calls Try.prog 4 #[.slice B m d] W fun e W' => e = .returned (.bool true) ∧ Below W.heap.size W W' := by
    generalize ((List.range m).map fun i => (⟨Z1 i 0, Z1 i 1, Z1 i 2, Z1 i 3⟩ : Ev)) = l at *
    subst hl1
    exact zonesSay_any B d l W (by omega) hR1
  refine hcall.mono fun e W' ⟨he, hb⟩ => ⟨_, he, ?_⟩
  exact law_post laidOut (by kernel_rfl) rfl rfl Try.underlying4 hW' (fun _ => by subst_vars; rfl) hb

open Go.ChangeShapes Go.WideShapes Go.ChangeAt Go.Deep in
set_option maxRecDepth 100000 in
theorem zonesSay_lifted (os : Os) (started : os.Started) (H : Type) (enc : TypeId × Value → H) :
    ReturnsInHanded {} Try.checked os 4 .any (Rows.zonesSaySpec.pre6 enc Try.prog Try.f4 Rows.zonesSayRow.domain false) (Rows.zonesSaySpec.post enc Try.prog Try.f4 false true false false) := by
  refine returnsInHanded_of_change (C := Try.checked) own started (by kernel_rfl) Try.func4
    (ChangeSpec.witness6 (enc := enc) (C := Try.checked) false ⟨#[], #[.slice none 0 0], []⟩ 8 (by kernel_rfl) (by kernel_rfl) (by kernel_rfl) (by kernel_rfl)) ?_
  intro W base args ds gs before hval hW _ _
  exact zonesSay_contract H enc W base args ds gs before hval hW
theorem zonesSay_holds : Rows.ZonesSaySaid :=
  OpenClaim.holds_of_wide 4 Try.f4 rfl rfl rfl rfl rfl rfl rfl ⟨rfl, rfl, rfl, rfl, rfl⟩ rfl rfl rfl rfl rfl (by kernel_rfl) Try.func4 (by kernel_rfl)
    (of_decide_eq_true (by kernel_rfl)) (by unfold Func.isWrapper; first | (rw [if_pos (by decide +kernel)]; kernel_rfl) | (rw [if_neg (by decide +kernel)]; exact ⟨rfl, rfl⟩))
    (fun os started H enc _ => zonesSay_lifted os started H enc)
#print axioms zonesSay_holds
end Go.Proofs.Ytaonijdhmgcbjaa
