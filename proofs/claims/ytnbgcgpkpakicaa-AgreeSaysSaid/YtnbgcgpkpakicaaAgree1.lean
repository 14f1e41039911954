/- agree: the machine's methods. -/
import Derived.Test.YtnbgcgpkpakicaaE
import Derived.Test.YtnbgcgpkpakicaaTy
namespace Go.Proofs.Ytnbgcgpkpakicaa
open Go.RowKit

theorem Mem.rdF {C : Ctx} {S : List Ent} {α : Type} {enc : α → List Value} {M : Nat} {ls : List α} {A : Option Addr} {w : World} (hw : Mem C w S) (h : RdE enc M C.w0 A ls) (hF : ∀ b o, A = some ⟨b, o, .none⟩ → b ∉ C.F) : RdE enc M w A ls := by
  intro i x hx
  obtain ⟨b, o, h1, h2, h3⟩ := h i x hx
  exact ⟨b, o, h1, Nat.lt_of_lt_of_le h2 hw.keeps.size, fun j v hv => hw.old h2 (hF b o h1) (h3 j v hv)⟩
structure AS where
  D : List (Int × Int)
  count : Int
  step : List Int
  x : List Int
  out : List Int
/-- where the machine lies -/
structure AP where
  m : Nat
  p : Nat
  s : Nat
  x : Nat
  o : Nat
def machL (A : Option Addr) (vs : List Int) (c : Nat) (a : AP) : AS → List Ent
  | ⟨D, count, step, x, out⟩ =>
  [entBlk a.m 109 #[.slice A vs.length c, .map (some a.p), .int .i64 count, .slice (some ⟨a.s, 0, none⟩) vs.length vs.length, .slice (some ⟨a.x, 0, none⟩) vs.length vs.length, .slice (some ⟨a.o, 0, none⟩) vs.length vs.length],
    entMap intV a.p D, entOwn intEnc 1 3 (some ⟨a.s, 0, none⟩) vs.length step, entOwn intEnc 1 3 (some ⟨a.x, 0, none⟩) vs.length x, entOwn intEnc 1 3 (some ⟨a.o, 0, none⟩) vs.length out]
structure AS.Ok (st : AS) (n : Nat) : Prop where
  step : st.step.length = n
  x : st.x.length = n
  out : st.out.length = n
  c0 : 0 ≤ st.count
  c1 : st.count ≤ 1000
/-- one turn of somebody, by the algorithm -/
def ownS (vs : List Int) (st : AS) (k : Nat) : AS := { st with D := putM st.D k (vs.getD k 0), step := st.step.set k 1 }
def casS (vs : List Int) (st : AS) (k : Nat) : AS :=
  if st.step.getD k 0 = 0 then { st with D := if (lookM st.D (-1)).isSome then st.D else putM st.D (-1) (vs.getD k 0), step := st.step.set k 1 }
  else { st with out := st.out.set k ((lookM st.D (-1)).getD 0) }
def ticketS (vs : List Int) (st : AS) (k : Nat) : AS :=
  if st.step.getD k 0 = 0 then ownS vs st k
  else if st.step.getD k 0 = 1 then { st with x := st.x.set k st.count, count := st.count + 1, step := st.step.set k 2 }
  else if st.x.getD k 0 = 0 then { st with out := st.out.set k (vs.getD k 0) }
  else { st with out := st.out.set k ((lookM st.D (1 - k)).getD 0) }
def naiveS (vs : List Int) (st : AS) (k : Nat) : AS :=
  if st.step.getD k 0 = 0 then ownS vs st k
  else { st with out := st.out.set k (match lookM st.D (1 - k) with | some v => min v (vs.getD k 0) | none => vs.getD k 0) }
section
variable (A : Option Addr) (vs : List Int) (c : Nat) (a : AP) (st : AS) (k : Nat) (n0 : Nat) (w : World) (hk : k < vs.length) (hn : vs.length ≤ 8) (hst : st.Ok vs.length)
  (hR : RdInt w A vs) (hA : ∀ b o, A = some ⟨b, o, none⟩ → b ∉ blks (machL A vs c a st)) (hm : Mem ⟨n0, blks (machL A vs c a st), w⟩ w (machL A vs c a st))
include hk hn hst hR hA hm
set_option maxRecDepth 100000 in
set_option maxHeartbeats 4000000 in
theorem own_any : Calls Try.prog 71 #[.pointer (some ⟨a.m, 0, none⟩), .int .i64 (k : Nat)] w fun e w' => e = .returned (.tuple #[]) ∧ Mem ⟨0, blks (machL A vs c a st), w⟩ w' (machL A vs c a (ownS vs st k)) := by
  obtain ⟨D, count, step, x, out⟩ := st
  have h1 : step.length = vs.length := hst.step
  have h2 : x.length = vs.length := hst.x
  have h3 : out.length = vs.length := hst.out
  have h4 : 0 ≤ count := hst.c0
  have h5 : count ≤ 1000 := hst.c1
  have e0 : vs.getD k 0 = vs[k] := by simp [hk]
  have e1 : step.getD k 0 = step[k] := by simp [h1, hk]
  have e2 : x.getD k 0 = x[k] := by simp [h2, hk]
  obtain ⟨b, o, rfl, hb⟩ := RdE.open hR (by omega)
  have hbF := hA b o rfl
  generalize blks (machL (some ⟨b, o, none⟩) vs c a ⟨D, count, step, x, out⟩) = F at hm hbF ⊢
  refine calls_T F Try.func71 rfl Try.ntmps71 (by simp) (hm.anyN _) ?_
  rw [machL]
  repeat' (first | first | with_reducible apply T_seq | with_reducible apply T_region | with_reducible apply TL_nil | with_reducible apply At_then | with_reducible apply T_block | with_reducible apply At_block | with_reducible apply T_skip | with_reducible apply T_exit | with_reducible apply At_then_exit | with_reducible apply At_block_exit | ((with_reducible apply At_block_past); exact rfl) | with_reducible apply T_ret | with_reducible apply At_then_ret | with_reducible apply At_block_ret | with_reducible apply TD_nil | with_reducible apply TD_fork | ((with_reducible apply TL_q); exact QS.auto; exact rfl) | ((with_reducible apply TL_e); exact ES.auto; exact rfl; (first | (rintro _ _ ⟨rfl, rfl⟩) | (rintro _ _ ⟨g, rfl, rfl⟩) | (rintro _ _ ⟨A', c', rfl, rfl⟩))) | (first | ((with_reducible apply TL_yes); exact rfl; exact rfl; (with_reducible exact rfl)) | ((with_reducible apply TL_no); exact rfl; exact rfl; (first | with_reducible exact Bool.not_true.symm | with_reducible exact Bool.not_false.symm); exact rfl) | ((with_reducible apply TL_no_undef); exact rfl; exact rfl; exact rfl) | (((with_reducible apply TL_guard); exact rfl; exact rfl; (fail_if_success (with_reducible refine imp_lit1 ?_)); (fail_if_success (with_reducible refine imp_lit0))) <;> intro h <;> (try (repeat (first | with_reducible (replace h := of_decide_eq_true h) | with_reducible (replace h := of_decide_eq_false h) | with_reducible (replace h := bnt h) | with_reducible (replace h := bnf h) | with_reducible (replace h := Int.not_lt.mp h) | with_reducible (replace h := Int.not_le.mp h) | with_reducible (replace h := band_dec h) | with_reducible (replace h := band_decF h) | with_reducible (replace h := bor_dec h) | with_reducible (replace h := bor_decF h)))) <;> (try (exfalso; first | contradiction | omega))) | (((with_reducible apply TD_guard); exact rfl; exact rfl; (fail_if_success (with_reducible refine imp_lit1 ?_)); (fail_if_success (with_reducible refine imp_lit0))) <;> intro h <;> (try (repeat (first | with_reducible (replace h := of_decide_eq_true h) | with_reducible (replace h := of_decide_eq_false h) | with_reducible (replace h := bnt h) | with_reducible (replace h := bnf h) | with_reducible (replace h := Int.not_lt.mp h) | with_reducible (replace h := Int.not_le.mp h) | with_reducible (replace h := band_dec h) | with_reducible (replace h := band_decF h) | with_reducible (replace h := bor_dec h) | with_reducible (replace h := bor_decF h)))) <;> (try (exfalso; first | contradiction | omega)))) | (((with_reducible apply T_cond); exact rfl) <;> intro h <;> (try (repeat (first | with_reducible (replace h := of_decide_eq_true h) | with_reducible (replace h := of_decide_eq_false h) | with_reducible (replace h := bnt h) | with_reducible (replace h := bnf h) | with_reducible (replace h := Int.not_lt.mp h) | with_reducible (replace h := Int.not_le.mp h) | with_reducible (replace h := band_dec h) | with_reducible (replace h := band_decF h) | with_reducible (replace h := bor_dec h) | with_reducible (replace h := bor_decF h)))) <;> (try (exfalso; first | contradiction | omega))) | ((with_reducible apply TD_q0); exact QS.auto; exact rfl) | ((with_reducible apply TD_q1); exact QS.auto; exact rfl) | ((with_reducible apply TD_q0y); exact rfl; exact rfl; (with_reducible exact rfl); exact QS.auto; exact rfl) | ((with_reducible apply TD_q1y); exact rfl; exact rfl; (with_reducible exact rfl); exact QS.auto; exact rfl) | ((with_reducible apply TD_no); exact rfl; exact rfl; exact rfl; (first | with_reducible exact Bool.not_true.symm | with_reducible exact Bool.not_false.symm); exact rfl) | ((with_reducible apply TD_noU); exact rfl; exact rfl; exact rfl; exact rfl) | ((with_reducible apply TD_e2); exact ES.auto; exact rfl; (first | (rintro _ _ ⟨rfl, rfl⟩) | (rintro _ _ ⟨g, rfl, rfl⟩) | (rintro _ _ ⟨A', c', rfl, rfl⟩)); refine ⟨by (repeat (first | with_reducible exact List.nil_sublist _ | with_reducible exact List.Sublist.refl _ | with_reducible apply List.Sublist.cons_cons | with_reducible apply List.Sublist.cons)), ?_⟩) | ((with_reducible apply TD_e3); exact ES.auto; exact rfl; (first | (rintro _ _ ⟨rfl, rfl⟩) | (rintro _ _ ⟨g, rfl, rfl⟩) | (rintro _ _ ⟨A', c', rfl, rfl⟩))) | ((with_reducible apply TD_q3); exact QS.auto; exact rfl) | ((with_reducible apply TD_e2y); exact rfl; exact rfl; (with_reducible exact rfl); exact ES.auto; (first | (rintro _ _ ⟨rfl, rfl⟩) | (rintro _ _ ⟨g, rfl, rfl⟩) | (rintro _ _ ⟨A', c', rfl, rfl⟩)); refine ⟨by (repeat (first | with_reducible exact List.nil_sublist _ | with_reducible exact List.Sublist.refl _ | with_reducible apply List.Sublist.cons_cons | with_reducible apply List.Sublist.cons)), ?_⟩) | ((with_reducible apply TD_e3y); exact rfl; exact rfl; (with_reducible exact rfl); exact ES.auto; (first | (rintro _ _ ⟨rfl, rfl⟩) | (rintro _ _ ⟨g, rfl, rfl⟩) | (rintro _ _ ⟨A', c', rfl, rfl⟩))) | ((with_reducible apply TD_eno); exact rfl; exact rfl; exact rfl; (first | with_reducible exact Bool.not_true.symm | with_reducible exact Bool.not_false.symm); exact rfl) | ((with_reducible apply TD_enoU); exact rfl; exact rfl; exact rfl; exact rfl) | ((with_reducible apply T_draw (id := 0) 12 (OT.seq [(0, 0), (0, 1), (0, 2), (0, 4), (0, 5), (0, 6), (0, 7), (0, 9), (1, 3), (1, 8), (0, 10), (1, 11), (3, 12)] .nil)); kernel_rfl; exact rfl; kernel_rfl; (repeat (first | with_reducible exact Blind.body | with_reducible apply Blind.seq | with_reducible apply Blind.block))) | fail)
  (refine At_retN Try.results71 rfl (fun w' hw => ?_))
  refine ⟨rfl, ?_⟩
  simp only [ownS, e0]
  exact hw.anyN 0
set_option maxRecDepth 100000 in
set_option maxHeartbeats 4000000 in
theorem cas_any : Calls Try.prog 54 #[.pointer (some ⟨a.m, 0, none⟩), .int .i64 (k : Nat)] w fun e w' => e = .returned (.tuple #[]) ∧ Mem ⟨0, blks (machL A vs c a st), w⟩ w' (machL A vs c a (casS vs st k)) := by
  obtain ⟨D, count, step, x, out⟩ := st
  have h1 : step.length = vs.length := hst.step
  have h2 : x.length = vs.length := hst.x
  have h3 : out.length = vs.length := hst.out
  have h4 : 0 ≤ count := hst.c0
  have h5 : count ≤ 1000 := hst.c1
  have e0 : vs.getD k 0 = vs[k] := by simp [hk]
  have e1 : step.getD k 0 = step[k] := by simp [h1, hk]
  have e2 : x.getD k 0 = x[k] := by simp [h2, hk]
  obtain ⟨b, o, rfl, hb⟩ := RdE.open hR (by omega)
  have hbF := hA b o rfl
  generalize blks (machL (some ⟨b, o, none⟩) vs c a ⟨D, count, step, x, out⟩) = F at hm hbF ⊢
  refine calls_T F Try.func54 rfl Try.ntmps54 (by simp) (hm.anyN _) ?_
  rw [machL]
  repeat' (first | first | with_reducible apply T_seq | with_reducible apply T_region | with_reducible apply TL_nil | with_reducible apply At_then | with_reducible apply T_block | with_reducible apply At_block | with_reducible apply T_skip | with_reducible apply T_exit | with_reducible apply At_then_exit | with_reducible apply At_block_exit | ((with_reducible apply At_block_past); exact rfl) | with_reducible apply T_ret | with_reducible apply At_then_ret | with_reducible apply At_block_ret | with_reducible apply TD_nil | with_reducible apply TD_fork | ((with_reducible apply TL_q); exact QS.auto; exact rfl) | ((with_reducible apply TL_e); exact ES.auto; exact rfl; (first | (rintro _ _ ⟨rfl, rfl⟩) | (rintro _ _ ⟨g, rfl, rfl⟩) | (rintro _ _ ⟨A', c', rfl, rfl⟩))) | (first | ((with_reducible apply TL_yes); exact rfl; exact rfl; (with_reducible exact rfl)) | ((with_reducible apply TL_no); exact rfl; exact rfl; (first | with_reducible exact Bool.not_true.symm | with_reducible exact Bool.not_false.symm); exact rfl) | ((with_reducible apply TL_no_undef); exact rfl; exact rfl; exact rfl) | (((with_reducible apply TL_guard); exact rfl; exact rfl; (fail_if_success (with_reducible refine imp_lit1 ?_)); (fail_if_success (with_reducible refine imp_lit0))) <;> intro h <;> (try (repeat (first | with_reducible (replace h := of_decide_eq_true h) | with_reducible (replace h := of_decide_eq_false h) | with_reducible (replace h := bnt h) | with_reducible (replace h := bnf h) | with_reducible (replace h := Int.not_lt.mp h) | with_reducible (replace h := Int.not_le.mp h) | with_reducible (replace h := band_dec h) | with_reducible (replace h := band_decF h) | with_reducible (replace h := bor_dec h) | with_reducible (replace h := bor_decF h)))) <;> (try (exfalso; first | contradiction | omega))) | (((with_reducible apply TD_guard); exact rfl; exact rfl; (fail_if_success (with_reducible refine imp_lit1 ?_)); (fail_if_success (with_reducible refine imp_lit0))) <;> intro h <;> (try (repeat (first | with_reducible (replace h := of_decide_eq_true h) | with_reducible (replace h := of_decide_eq_false h) | with_reducible (replace h := bnt h) | with_reducible (replace h := bnf h) | with_reducible (replace h := Int.not_lt.mp h) | with_reducible (replace h := Int.not_le.mp h) | with_reducible (replace h := band_dec h) | with_reducible (replace h := band_decF h) | with_reducible (replace h := bor_dec h) | with_reducible (replace h := bor_decF h)))) <;> (try (exfalso; first | contradiction | omega)))) | (((with_reducible apply T_cond); exact rfl) <;> intro h <;> (try (repeat (first | with_reducible (replace h := of_decide_eq_true h) | with_reducible (replace h := of_decide_eq_false h) | with_reducible (replace h := bnt h) | with_reducible (replace h := bnf h) | with_reducible (replace h := Int.not_lt.mp h) | with_reducible (replace h := Int.not_le.mp h) | with_reducible (replace h := band_dec h) | with_reducible (replace h := band_decF h) | with_reducible (replace h := bor_dec h) | with_reducible (replace h := bor_decF h)))) <;> (try (exfalso; first | contradiction | omega))) | ((with_reducible apply TD_q0); exact QS.auto; exact rfl) | ((with_reducible apply TD_q1); exact QS.auto; exact rfl) | ((with_reducible apply TD_q0y); exact rfl; exact rfl; (with_reducible exact rfl); exact QS.auto; exact rfl) | ((with_reducible apply TD_q1y); exact rfl; exact rfl; (with_reducible exact rfl); exact QS.auto; exact rfl) | ((with_reducible apply TD_no); exact rfl; exact rfl; exact rfl; (first | with_reducible exact Bool.not_true.symm | with_reducible exact Bool.not_false.symm); exact rfl) | ((with_reducible apply TD_noU); exact rfl; exact rfl; exact rfl; exact rfl) | ((with_reducible apply TD_e2); exact ES.auto; exact rfl; (first | (rintro _ _ ⟨rfl, rfl⟩) | (rintro _ _ ⟨g, rfl, rfl⟩) | (rintro _ _ ⟨A', c', rfl, rfl⟩)); refine ⟨by (repeat (first | with_reducible exact List.nil_sublist _ | with_reducible exact List.Sublist.refl _ | with_reducible apply List.Sublist.cons_cons | with_reducible apply List.Sublist.cons)), ?_⟩) | ((with_reducible apply TD_e3); exact ES.auto; exact rfl; (first | (rintro _ _ ⟨rfl, rfl⟩) | (rintro _ _ ⟨g, rfl, rfl⟩) | (rintro _ _ ⟨A', c', rfl, rfl⟩))) | ((with_reducible apply TD_q3); exact QS.auto; exact rfl) | ((with_reducible apply TD_e2y); exact rfl; exact rfl; (with_reducible exact rfl); exact ES.auto; (first | (rintro _ _ ⟨rfl, rfl⟩) | (rintro _ _ ⟨g, rfl, rfl⟩) | (rintro _ _ ⟨A', c', rfl, rfl⟩)); refine ⟨by (repeat (first | with_reducible exact List.nil_sublist _ | with_reducible exact List.Sublist.refl _ | with_reducible apply List.Sublist.cons_cons | with_reducible apply List.Sublist.cons)), ?_⟩) | ((with_reducible apply TD_e3y); exact rfl; exact rfl; (with_reducible exact rfl); exact ES.auto; (first | (rintro _ _ ⟨rfl, rfl⟩) | (rintro _ _ ⟨g, rfl, rfl⟩) | (rintro _ _ ⟨A', c', rfl, rfl⟩))) | ((with_reducible apply TD_eno); exact rfl; exact rfl; exact rfl; (first | with_reducible exact Bool.not_true.symm | with_reducible exact Bool.not_false.symm); exact rfl) | ((with_reducible apply TD_enoU); exact rfl; exact rfl; exact rfl; exact rfl) | ((with_reducible apply T_draw (id := 3) 11 (OT.seq [(0, 0), (0, 1), (0, 2), (0, 4), (0, 5), (0, 6), (0, 8), (1, 3), (1, 7), (0, 9), (1, 10), (3, 11)] .nil)); kernel_rfl; exact rfl; kernel_rfl; (repeat (first | with_reducible exact Blind.body | with_reducible apply Blind.seq | with_reducible apply Blind.block))) | ((with_reducible apply T_draw (id := 5) 11 (OT.seq [(0, 0), (0, 1), (0, 2), (0, 4), (0, 5), (0, 6), (0, 7), (1, 3), (1, 8), (1, 9), (0, 10), (3, 11)] .nil)); kernel_rfl; exact rfl; kernel_rfl; (repeat (first | with_reducible exact Blind.body | with_reducible apply Blind.seq | with_reducible apply Blind.block))) | fail)
  · (refine At_ret Try.results54 rfl (fun w' hw => ?_))
    have hs : casS vs ⟨D, count, step, x, out⟩ k = ⟨putM D (-1) vs[k], count, step.set k 1, x, out⟩ := by
      have hz : step[k] = 0 := by assumption
      have hl : (lookM D (-1)).isSome = false := by assumption
      simp only [casS, e0, e1, hz, hl]; rfl
    rw [hs]
    exact ⟨rfl, hw.anyN 0⟩
  · (refine At_ret Try.results54 rfl (fun w' hw => ?_))
    have hs : casS vs ⟨D, count, step, x, out⟩ k = ⟨D, count, step.set k 1, x, out⟩ := by
      have hz : step[k] = 0 := by assumption
      have hl : (lookM D (-1)).isSome = true := by assumption
      simp only [casS, e0, e1, hz, hl]; rfl
    rw [hs]
    exact ⟨rfl, hw.anyN 0⟩
  · (refine At_retN Try.results54 rfl (fun w' hw => ?_))
    have hs : casS vs ⟨D, count, step, x, out⟩ k = ⟨D, count, step, x, out.set k ((lookM D (-1)).getD 0)⟩ := by
      have hz : ¬ step[k] = 0 := by assumption
      simp only [casS, e0, e1, if_neg hz]
    rw [hs]
    exact ⟨rfl, hw.anyN 0⟩
set_option maxRecDepth 100000 in
set_option maxHeartbeats 4000000 in
theorem ticket_any : Calls Try.prog 55 #[.pointer (some ⟨a.m, 0, none⟩), .int .i64 (k : Nat)] w fun e w' => e = .returned (.tuple #[]) ∧ Mem ⟨0, blks (machL A vs c a st), w⟩ w' (machL A vs c a (ticketS vs st k)) := by
  obtain ⟨D, count, step, x, out⟩ := st
  have h1 : step.length = vs.length := hst.step
  have h2 : x.length = vs.length := hst.x
  have h3 : out.length = vs.length := hst.out
  have h4 : 0 ≤ count := hst.c0
  have h5 : count ≤ 1000 := hst.c1
  have e0 : vs.getD k 0 = vs[k] := by simp [hk]
  have e1 : step.getD k 0 = step[k] := by simp [h1, hk]
  have e2 : x.getD k 0 = x[k] := by simp [h2, hk]
  obtain ⟨b, o, rfl, hb⟩ := RdE.open hR (by omega)
  have hbF := hA b o rfl
  generalize blks (machL (some ⟨b, o, none⟩) vs c a ⟨D, count, step, x, out⟩) = F at hm hbF ⊢
  refine calls_T F Try.func55 rfl Try.ntmps55 (by simp) (hm.anyN _) ?_
  rw [machL]
  repeat' (first | first | with_reducible apply T_seq | with_reducible apply T_region | with_reducible apply TL_nil | with_reducible apply At_then | with_reducible apply T_block | with_reducible apply At_block | with_reducible apply T_skip | with_reducible apply T_exit | with_reducible apply At_then_exit | with_reducible apply At_block_exit | ((with_reducible apply At_block_past); exact rfl) | with_reducible apply T_ret | with_reducible apply At_then_ret | with_reducible apply At_block_ret | with_reducible apply TD_nil | with_reducible apply TD_fork | ((with_reducible apply TL_q); exact QS.auto; exact rfl) | ((with_reducible apply TL_e); exact ES.auto; exact rfl; (first | (rintro _ _ ⟨rfl, rfl⟩) | (rintro _ _ ⟨g, rfl, rfl⟩) | (rintro _ _ ⟨A', c', rfl, rfl⟩))) | (first | ((with_reducible apply TL_yes); exact rfl; exact rfl; (with_reducible exact rfl)) | ((with_reducible apply TL_no); exact rfl; exact rfl; (first | with_reducible exact Bool.not_true.symm | with_reducible exact Bool.not_false.symm); exact rfl) | ((with_reducible apply TL_no_undef); exact rfl; exact rfl; exact rfl) | (((with_reducible apply TL_guard); exact rfl; exact rfl; (fail_if_success (with_reducible refine imp_lit1 ?_)); (fail_if_success (with_reducible refine imp_lit0))) <;> intro h <;> (try (repeat (first | with_reducible (replace h := of_decide_eq_true h) | with_reducible (replace h := of_decide_eq_false h) | with_reducible (replace h := bnt h) | with_reducible (replace h := bnf h) | with_reducible (replace h := Int.not_lt.mp h) | with_reducible (replace h := Int.not_le.mp h) | with_reducible (replace h := band_dec h) | with_reducible (replace h := band_decF h) | with_reducible (replace h := bor_dec h) | with_reducible (replace h := bor_decF h)))) <;> (try (exfalso; first | contradiction | omega))) | (((with_reducible apply TD_guard); exact rfl; exact rfl; (fail_if_success (with_reducible refine imp_lit1 ?_)); (fail_if_success (with_reducible refine imp_lit0))) <;> intro h <;> (try (repeat (first | with_reducible (replace h := of_decide_eq_true h) | with_reducible (replace h := of_decide_eq_false h) | with_reducible (replace h := bnt h) | with_reducible (replace h := bnf h) | with_reducible (replace h := Int.not_lt.mp h) | with_reducible (replace h := Int.not_le.mp h) | with_reducible (replace h := band_dec h) | with_reducible (replace h := band_decF h) | with_reducible (replace h := bor_dec h) | with_reducible (replace h := bor_decF h)))) <;> (try (exfalso; first | contradiction | omega)))) | (((with_reducible apply T_cond); exact rfl) <;> intro h <;> (try (repeat (first | with_reducible (replace h := of_decide_eq_true h) | with_reducible (replace h := of_decide_eq_false h) | with_reducible (replace h := bnt h) | with_reducible (replace h := bnf h) | with_reducible (replace h := Int.not_lt.mp h) | with_reducible (replace h := Int.not_le.mp h) | with_reducible (replace h := band_dec h) | with_reducible (replace h := band_decF h) | with_reducible (replace h := bor_dec h) | with_reducible (replace h := bor_decF h)))) <;> (try (exfalso; first | contradiction | omega))) | ((with_reducible apply TD_q0); exact QS.auto; exact rfl) | ((with_reducible apply TD_q1); exact QS.auto; exact rfl) | ((with_reducible apply TD_q0y); exact rfl; exact rfl; (with_reducible exact rfl); exact QS.auto; exact rfl) | ((with_reducible apply TD_q1y); exact rfl; exact rfl; (with_reducible exact rfl); exact QS.auto; exact rfl) | ((with_reducible apply TD_no); exact rfl; exact rfl; exact rfl; (first | with_reducible exact Bool.not_true.symm | with_reducible exact Bool.not_false.symm); exact rfl) | ((with_reducible apply TD_noU); exact rfl; exact rfl; exact rfl; exact rfl) | ((with_reducible apply TD_e2); exact ES.auto; exact rfl; (first | (rintro _ _ ⟨rfl, rfl⟩) | (rintro _ _ ⟨g, rfl, rfl⟩) | (rintro _ _ ⟨A', c', rfl, rfl⟩)); refine ⟨by (repeat (first | with_reducible exact List.nil_sublist _ | with_reducible exact List.Sublist.refl _ | with_reducible apply List.Sublist.cons_cons | with_reducible apply List.Sublist.cons)), ?_⟩) | ((with_reducible apply TD_e3); exact ES.auto; exact rfl; (first | (rintro _ _ ⟨rfl, rfl⟩) | (rintro _ _ ⟨g, rfl, rfl⟩) | (rintro _ _ ⟨A', c', rfl, rfl⟩))) | ((with_reducible apply TD_q3); exact QS.auto; exact rfl) | ((with_reducible apply TD_e2y); exact rfl; exact rfl; (with_reducible exact rfl); exact ES.auto; (first | (rintro _ _ ⟨rfl, rfl⟩) | (rintro _ _ ⟨g, rfl, rfl⟩) | (rintro _ _ ⟨A', c', rfl, rfl⟩)); refine ⟨by (repeat (first | with_reducible exact List.nil_sublist _ | with_reducible exact List.Sublist.refl _ | with_reducible apply List.Sublist.cons_cons | with_reducible apply List.Sublist.cons)), ?_⟩) | ((with_reducible apply TD_e3y); exact rfl; exact rfl; (with_reducible exact rfl); exact ES.auto; (first | (rintro _ _ ⟨rfl, rfl⟩) | (rintro _ _ ⟨g, rfl, rfl⟩) | (rintro _ _ ⟨A', c', rfl, rfl⟩))) | ((with_reducible apply TD_eno); exact rfl; exact rfl; exact rfl; (first | with_reducible exact Bool.not_true.symm | with_reducible exact Bool.not_false.symm); exact rfl) | ((with_reducible apply TD_enoU); exact rfl; exact rfl; exact rfl; exact rfl) | ((with_reducible apply T_draw (id := 4) 10 (OT.seq [(0, 0), (0, 1), (0, 2), (0, 4), (0, 5), (0, 6), (0, 7), (1, 3), (1, 8), (0, 9), (3, 10)] .nil)); kernel_rfl; exact rfl; kernel_rfl; (repeat (first | with_reducible exact Blind.body | with_reducible apply Blind.seq | with_reducible apply Blind.block))) | ((with_reducible apply T_draw (id := 8) 13 (OT.seq [(0, 0), (0, 1), (0, 2), (0, 4), (0, 5), (0, 6), (0, 7), (0, 9), (1, 3), (1, 8), (0, 10), (1, 11), (0, 12), (3, 13)] .nil)); kernel_rfl; exact rfl; kernel_rfl; (repeat (first | with_reducible exact Blind.body | with_reducible apply Blind.seq | with_reducible apply Blind.block))) | ((with_reducible apply T_draw (id := 0) 13 (OT.seq [(0, 0), (0, 1), (0, 2), (0, 4), (0, 5), (0, 6), (0, 7), (0, 9), (0, 10), (1, 3), (1, 8), (1, 11), (0, 12), (3, 13)] .nil)); kernel_rfl; exact rfl; kernel_rfl; (repeat (first | with_reducible exact Blind.body | with_reducible apply Blind.seq | with_reducible apply Blind.block))) | ((with_reducible apply TL_e); exact ES_callM (S1 := machL (some ⟨b, o, none⟩) vs c a ⟨D, count, step, x, out⟩) (S1' := machL (some ⟨b, o, none⟩) vs c a (ownS vs ⟨D, count, step, x, out⟩ k)) [] rfl (by rw [machL]; rfl) (fun w hw => own_any (some ⟨b, o, none⟩) vs c a ⟨D, count, step, x, out⟩ k 0 w hk hn hst (hw.rdF hR (fun b' o' e => by cases e; exact hbF)) hA ((hw.anyN 0).self 0)) rfl; exact rfl; rintro _ _ ⟨rfl, rfl⟩) | fail)
  · (refine At_retN Try.results55 rfl (fun w' hw => ?_))
    have hs : ticketS vs ⟨D, count, step, x, out⟩ k = ownS vs ⟨D, count, step, x, out⟩ k := by
      have hz : step[k] = 0 := by assumption
      simp only [ticketS, e1, hz]; rfl
    rw [hs]
    have h9 := hw.anyN 0
    rw [List.append_nil] at h9
    exact ⟨rfl, h9⟩
  · (refine At_retN Try.results55 rfl (fun w' hw => ?_))
    have hs : ticketS vs ⟨D, count, step, x, out⟩ k = ⟨D, count + 1, step.set k 2, x.set k count, out⟩ := by
      have hz : ¬ step[k] = 0 := by assumption
      have ho : step[k] = 1 := by assumption
      simp only [ticketS, e1, if_neg hz, if_pos ho]
    rw [hs]
    exact ⟨rfl, hw.anyN 0⟩
  · (refine At_retN Try.results55 rfl (fun w' hw => ?_))
    have hs : ticketS vs ⟨D, count, step, x, out⟩ k = ⟨D, count, step, x, out.set k vs[k]⟩ := by
      have hz : ¬ step[k] = 0 := by assumption
      have ho : ¬ step[k] = 1 := by assumption
      have hx : x[k] = 0 := by assumption
      simp only [ticketS, e0, e1, e2, if_neg hz, if_neg ho, if_pos hx]
    rw [hs]
    exact ⟨rfl, hw.anyN 0⟩
  · (refine At_retN Try.results55 rfl (fun w' hw => ?_))
    have hs : ticketS vs ⟨D, count, step, x, out⟩ k = ⟨D, count, step, x, out.set k ((lookM D (1 - k)).getD 0)⟩ := by
      have hz : ¬ step[k] = 0 := by assumption
      have ho : ¬ step[k] = 1 := by assumption
      have hx : ¬ x[k] = 0 := by assumption
      simp only [ticketS, e1, e2, if_neg hz, if_neg ho, if_neg hx]
    rw [hs]
    exact ⟨rfl, hw.anyN 0⟩
set_option maxRecDepth 100000 in
set_option maxHeartbeats 4000000 in
theorem naive_any : Calls Try.prog 56 #[.pointer (some ⟨a.m, 0, none⟩), .int .i64 (k : Nat)] w fun e w' => e = .returned (.tuple #[]) ∧ Mem ⟨0, blks (machL A vs c a st), w⟩ w' (machL A vs c a (naiveS vs st k)) := by
  obtain ⟨D, count, step, x, out⟩ := st
  have h1 : step.length = vs.length := hst.step
  have h2 : x.length = vs.length := hst.x
  have h3 : out.length = vs.length := hst.out
  have h4 : 0 ≤ count := hst.c0
  have h5 : count ≤ 1000 := hst.c1
  have e0 : vs.getD k 0 = vs[k] := by simp [hk]
  have e1 : step.getD k 0 = step[k] := by simp [h1, hk]
  have e2 : x.getD k 0 = x[k] := by simp [h2, hk]
  obtain ⟨b, o, rfl, hb⟩ := RdE.open hR (by omega)
  have hbF := hA b o rfl
  generalize blks (machL (some ⟨b, o, none⟩) vs c a ⟨D, count, step, x, out⟩) = F at hm hbF ⊢
  refine calls_T F Try.func56 rfl Try.ntmps56 (by simp) (hm.anyN _) ?_
  rw [machL]
  repeat' (first | first | with_reducible apply T_seq | with_reducible apply T_region | with_reducible apply TL_nil | with_reducible apply At_then | with_reducible apply T_block | with_reducible apply At_block | with_reducible apply T_skip | with_reducible apply T_exit | with_reducible apply At_then_exit | with_reducible apply At_block_exit | ((with_reducible apply At_block_past); exact rfl) | with_reducible apply T_ret | with_reducible apply At_then_ret | with_reducible apply At_block_ret | with_reducible apply TD_nil | with_reducible apply TD_fork | ((with_reducible apply TL_q); exact QS.auto; exact rfl) | ((with_reducible apply TL_e); exact ES.auto; exact rfl; (first | (rintro _ _ ⟨rfl, rfl⟩) | (rintro _ _ ⟨g, rfl, rfl⟩) | (rintro _ _ ⟨A', c', rfl, rfl⟩))) | (first | ((with_reducible apply TL_yes); exact rfl; exact rfl; (with_reducible exact rfl)) | ((with_reducible apply TL_no); exact rfl; exact rfl; (first | with_reducible exact Bool.not_true.symm | with_reducible exact Bool.not_false.symm); exact rfl) | ((with_reducible apply TL_no_undef); exact rfl; exact rfl; exact rfl) | (((with_reducible apply TL_guard); exact rfl; exact rfl; (fail_if_success (with_reducible refine imp_lit1 ?_)); (fail_if_success (with_reducible refine imp_lit0))) <;> intro h <;> (try (repeat (first | with_reducible (replace h := of_decide_eq_true h) | with_reducible (replace h := of_decide_eq_false h) | with_reducible (replace h := bnt h) | with_reducible (replace h := bnf h) | with_reducible (replace h := Int.not_lt.mp h) | with_reducible (replace h := Int.not_le.mp h) | with_reducible (replace h := band_dec h) | with_reducible (replace h := band_decF h) | with_reducible (replace h := bor_dec h) | with_reducible (replace h := bor_decF h)))) <;> (try (exfalso; first | contradiction | omega))) | (((with_reducible apply TD_guard); exact rfl; exact rfl; (fail_if_success (with_reducible refine imp_lit1 ?_)); (fail_if_success (with_reducible refine imp_lit0))) <;> intro h <;> (try (repeat (first | with_reducible (replace h := of_decide_eq_true h) | with_reducible (replace h := of_decide_eq_false h) | with_reducible (replace h := bnt h) | with_reducible (replace h := bnf h) | with_reducible (replace h := Int.not_lt.mp h) | with_reducible (replace h := Int.not_le.mp h) | with_reducible (replace h := band_dec h) | with_reducible (replace h := band_decF h) | with_reducible (replace h := bor_dec h) | with_reducible (replace h := bor_decF h)))) <;> (try (exfalso; first | contradiction | omega)))) | (((with_reducible apply T_cond); exact rfl) <;> intro h <;> (try (repeat (first | with_reducible (replace h := of_decide_eq_true h) | with_reducible (replace h := of_decide_eq_false h) | with_reducible (replace h := bnt h) | with_reducible (replace h := bnf h) | with_reducible (replace h := Int.not_lt.mp h) | with_reducible (replace h := Int.not_le.mp h) | with_reducible (replace h := band_dec h) | with_reducible (replace h := band_decF h) | with_reducible (replace h := bor_dec h) | with_reducible (replace h := bor_decF h)))) <;> (try (exfalso; first | contradiction | omega))) | ((with_reducible apply TD_q0); exact QS.auto; exact rfl) | ((with_reducible apply TD_q1); exact QS.auto; exact rfl) | ((with_reducible apply TD_q0y); exact rfl; exact rfl; (with_reducible exact rfl); exact QS.auto; exact rfl) | ((with_reducible apply TD_q1y); exact rfl; exact rfl; (with_reducible exact rfl); exact QS.auto; exact rfl) | ((with_reducible apply TD_no); exact rfl; exact rfl; exact rfl; (first | with_reducible exact Bool.not_true.symm | with_reducible exact Bool.not_false.symm); exact rfl) | ((with_reducible apply TD_noU); exact rfl; exact rfl; exact rfl; exact rfl) | ((with_reducible apply TD_e2); exact ES.auto; exact rfl; (first | (rintro _ _ ⟨rfl, rfl⟩) | (rintro _ _ ⟨g, rfl, rfl⟩) | (rintro _ _ ⟨A', c', rfl, rfl⟩)); refine ⟨by (repeat (first | with_reducible exact List.nil_sublist _ | with_reducible exact List.Sublist.refl _ | with_reducible apply List.Sublist.cons_cons | with_reducible apply List.Sublist.cons)), ?_⟩) | ((with_reducible apply TD_e3); exact ES.auto; exact rfl; (first | (rintro _ _ ⟨rfl, rfl⟩) | (rintro _ _ ⟨g, rfl, rfl⟩) | (rintro _ _ ⟨A', c', rfl, rfl⟩))) | ((with_reducible apply TD_q3); exact QS.auto; exact rfl) | ((with_reducible apply TD_e2y); exact rfl; exact rfl; (with_reducible exact rfl); exact ES.auto; (first | (rintro _ _ ⟨rfl, rfl⟩) | (rintro _ _ ⟨g, rfl, rfl⟩) | (rintro _ _ ⟨A', c', rfl, rfl⟩)); refine ⟨by (repeat (first | with_reducible exact List.nil_sublist _ | with_reducible exact List.Sublist.refl _ | with_reducible apply List.Sublist.cons_cons | with_reducible apply List.Sublist.cons)), ?_⟩) | ((with_reducible apply TD_e3y); exact rfl; exact rfl; (with_reducible exact rfl); exact ES.auto; (first | (rintro _ _ ⟨rfl, rfl⟩) | (rintro _ _ ⟨g, rfl, rfl⟩) | (rintro _ _ ⟨A', c', rfl, rfl⟩))) | ((with_reducible apply TD_eno); exact rfl; exact rfl; exact rfl; (first | with_reducible exact Bool.not_true.symm | with_reducible exact Bool.not_false.symm); exact rfl) | ((with_reducible apply TD_enoU); exact rfl; exact rfl; exact rfl; exact rfl) | ((with_reducible apply T_draw (id := 2) 13 (OT.seq [(0, 0), (0, 1), (0, 2), (0, 4), (0, 5), (0, 6), (0, 7), (0, 9), (1, 3), (1, 8), (0, 10), (1, 11), (0, 12), (3, 13)] .nil)); kernel_rfl; exact rfl; kernel_rfl; (repeat (first | with_reducible exact Blind.body | with_reducible apply Blind.seq | with_reducible apply Blind.block))) | ((with_reducible apply T_draw (id := 5) 15 (OT.seq [(0, 0), (0, 1), (0, 2), (0, 4), (0, 5), (0, 6), (0, 7), (0, 8), (0, 10), (1, 3), (1, 9), (0, 11), (1, 12), (0, 13), (0, 14), (3, 15)] .nil)); kernel_rfl; exact rfl; kernel_rfl; (repeat (first | with_reducible exact Blind.body | with_reducible apply Blind.seq | with_reducible apply Blind.block))) | ((with_reducible apply TL_e); exact ES_callM (S1 := machL (some ⟨b, o, none⟩) vs c a ⟨D, count, step, x, out⟩) (S1' := machL (some ⟨b, o, none⟩) vs c a (ownS vs ⟨D, count, step, x, out⟩ k)) [] rfl (by rw [machL]; rfl) (fun w hw => own_any (some ⟨b, o, none⟩) vs c a ⟨D, count, step, x, out⟩ k 0 w hk hn hst (hw.rdF hR (fun b' o' e => by cases e; exact hbF)) hA ((hw.anyN 0).self 0)) rfl; exact rfl; rintro _ _ ⟨rfl, rfl⟩) | fail)
  · (refine At_ret Try.results56 rfl (fun w' hw => ?_))
    have hs : naiveS vs ⟨D, count, step, x, out⟩ k = ownS vs ⟨D, count, step, x, out⟩ k := by
      have hz : step[k] = 0 := by assumption
      simp only [naiveS, e1, hz]; rfl
    rw [hs]
    have h9 := hw.anyN 0
    rw [List.append_nil] at h9
    exact ⟨rfl, h9⟩
  · (refine At_retN Try.results56 rfl (fun w' hw => ?_))
    have hs : naiveS vs ⟨D, count, step, x, out⟩ k = ⟨D, count, step, x, (out.set k vs[k]).set k (min ((lookM D (1 - k)).getD 0) vs[k])⟩ := by
      have hz : ¬ step[k] = 0 := by assumption
      have hl : (lookM D (1 - (k : Int))).isSome = true := by assumption
      obtain ⟨u, hu⟩ := Option.isSome_iff_exists.1 hl
      simp only [naiveS, e0, e1, if_neg hz, hu, List.set_set]; rfl
    rw [hs]
    exact ⟨rfl, hw.anyN 0⟩
  · (refine At_retN Try.results56 rfl (fun w' hw => ?_))
    have hs : naiveS vs ⟨D, count, step, x, out⟩ k = ⟨D, count, step, x, out.set k vs[k]⟩ := by
      have hz : ¬ step[k] = 0 := by assumption
      have hl : (lookM D (1 - (k : Int))).isSome = false := by assumption
      have hu : lookM D (1 - (k : Int)) = none := by simpa using hl
      simp only [naiveS, e0, e1, if_neg hz, hu]
    rw [hs]
    exact ⟨rfl, hw.anyN 0⟩
end
end Go.Proofs.Ytnbgcgpkpakicaa
