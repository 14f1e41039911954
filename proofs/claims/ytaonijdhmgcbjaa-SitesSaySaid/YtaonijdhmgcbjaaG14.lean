/- Lemmas for the walks (SvK). No condition. -/
import Derived.Test.YtaonijdhmgcbjaaG12
import Derived.Test.YtaonijdhmgcbjaaG13
set_option linter.unusedSimpArgs false
set_option linter.unusedVariables false
set_option linter.unusedSectionVars false
set_option linter.unnecessarySimpa false
namespace Go.Proofs.Ytaonijdhmgcbjaa
open Go.RowKit
theorem ESarm_SvK {p : Prop} (h : p := by (first | ((with_reducible apply ES_makeSlice (enc := Si.enc) (z0 := ⟨0, 0, 0, false⟩)); exact rfl; exact rfl; exact rfl; (first | omega | (simp; omega)); decide; exact rfl) | ((with_reducible apply ES_storeOwn (enc := Si.enc)); exact rfl; exact rfl; (first | ((repeat (first | with_reducible exact Upd.here _ _ _ | with_reducible apply Upd.there)); done) | (repeat (first | exact Upd.here _ _ _ | apply Upd.there))); (intro x; rfl); exact hpj1; decide; exact Si.enc_mk _ _ _ _; exact rfl) | exact ES.auto)) : p := h
theorem DRarm0_SvK {p R : Prop} (r : R) (h : Rest R → p := by intro r; first | ((with_reducible apply T_draw (id := 14) 8 (OT.seq [(0, 0), (0, 1), (0, 2), (0, 4), (1, 3), (1, 5), (0, 6), (0, 7), (3, 8)] .nil)); kernel_rfl; exact rfl; kernel_rfl; (repeat (first | with_reducible exact Blind.body | with_reducible apply Blind.seq | with_reducible apply Blind.block | with_reducible assumption)); exact r.out) | ((with_reducible apply T_draw (id := 22) 1000 (OT.seq [(0, 0), (0, 1), (0, 2), (0, 4), (0, 5), (0, 6), (1, 3), (0, 8), (1, 7), (0, 9), (0, 10)] .nil)); kernel_rfl; exact rfl; kernel_rfl; (repeat (first | with_reducible exact Blind.body | with_reducible apply Blind.seq | with_reducible apply Blind.block | with_reducible assumption)); exact r.out)) : p := h ⟨r⟩
set_option linter.unusedSectionVars false

def plV (n : Int) (fast : Bool) (ps : List (List Ak)) (l : List Ac) : List Ev × List Si × Int :=
  if actsE n ps l ≠ 0 then ([], [], actsE n ps l) else ((runC n.toNat fast ps l l.length).evs, (runC n.toNat fast ps l l.length).at_, 0)
def PlayPost3 (R : List Ev × List Si × Int) (w : World) (e : Ending) (w' : World) : Prop := ∃ x : (Option Addr × Nat) × (Option Addr × Nat), e = .returned (.tuple #[.slice x.1.1 R.1.length x.1.2, .slice x.2.1 R.2.1.length x.2.2, .int .i64 R.2.2]) ∧ Mem ⟨0, [], w⟩ w' [entOwn Ev.enc 4 34 x.1.1 x.1.2 R.1, entOwn Si.enc 4 37 x.2.1 x.2.2 R.2.1]
def fq0 (h : Hd) : Fq := ⟨⟨h.a, h.n, h.c⟩, false, 0, false, 0, 0, 0, 0⟩
theorem PvsOk0 {n : Nat} {ps : List (List Ak)} {w : World} {D0 : Option Addr} {hs : List Hd} (hD : RdRows Ak.enc 3 w D0 hs ps) : PvsOk ps w (cv0 n ps.length) (hs.map fq0) := by
  obtain ⟨h1, h2, h3⟩ := hD
  refine ⟨by simp [cv0, h2], fun i hi hi2 => ?_⟩
  have hi : i < hs.length := by simpa using hi
  have hi3 : i < ps.length := by omega
  obtain ⟨k1, k2, k3, k4⟩ := h3 i hi hi3
  rw [show ps.getD i [] = ps[i] by simp [hi3]]
  simp only [List.getElem_map, cv0, List.getElem_replicate]
  exact ⟨by simpa [fq0] using k1, by simp only [fq0]; omega, by simpa [fq0] using k4, rfl⟩
/-- nobody is there -/
theorem run0 {n : Nat} {fast : Bool} {l : List Ac} (hl : ∀ k, k < l.length → actR n 0 (l.getD k default)) : ∀ k, k ≤ l.length → (runC n fast [] l k).ml = [] ∧ (runC n fast [] l k).evs = []
  | 0, _ => ⟨rfl, rfl⟩
  | k + 1, hk => by
    obtain ⟨h1, h2⟩ := run0 (fast := fast) hl k (by omega)
    have h := hl k (by omega)
    rw [runC, actC]
    split
    · rename_i e; have := h.2.2.1 e; omega
    split
    · exact ⟨h1, h2⟩
    rw [if_pos]
    · exact ⟨h1, h2⟩
    · rw [h1]; show _ ∨ ((0 : Nat) : Int) ≤ _; omega
section
variable (gm gS nn np cP : Nat) (AP : Option Addr) (fast : Bool) (n0 : Nat) (w : World) (hM : Mem ⟨n0, blks [entBlk gm 79 #[.bool fast, .slice (some ⟨gS, 0, none⟩) nn nn, .slice AP np cP, .slice none 0 0, .slice none 0 0]], w⟩ w [entBlk gm 79 #[.bool fast, .slice (some ⟨gS, 0, none⟩) nn nn, .slice AP np cP, .slice none 0 0, .slice none 0 0]])
include hM
set_option maxRecDepth 100000 in
theorem hand0_any (i : Int) : Calls Try.prog 28 #[.pointer (some ⟨gm, 0, none⟩), .int .i64 i] w fun e w' => e = .returned (.tuple #[]) ∧ Mem ⟨0, blks [entBlk gm 79 #[.bool fast, .slice (some ⟨gS, 0, none⟩) nn nn, .slice AP np cP, .slice none 0 0, .slice none 0 0]], w⟩ w' [entBlk gm 79 #[.bool fast, .slice (some ⟨gS, 0, none⟩) nn nn, .slice AP np cP, .slice none 0 0, .slice none 0 0]] := by
  generalize blks [entBlk gm 79 #[.bool fast, .slice (some ⟨gS, 0, none⟩) nn nn, .slice AP np cP, .slice none 0 0, .slice none 0 0]] = F at hM ⊢
  refine calls_T F Try.func28 rfl Try.ntmps28 (by simp) (hM.anyN _) ?_
  repeat' (first | ((with_reducible (first | apply TD_e2z | apply TD_e3z | apply TL_e | apply TD_e2 | apply TD_e3)); exact ESarm_SvK; (first | exact rfl | exact ⟨rfl, rfl, rfl⟩); (first | (rintro _ _ ⟨rfl, rfl⟩) | (rintro _ _ ⟨g, rfl, rfl⟩) | (rintro _ _ ⟨A', c', rfl, rfl⟩)); (try refine ⟨SUB, ?_⟩)) | (refine GO ?_) | (refine GOE ?_; (first | (rintro _ _ ⟨rfl, rfl⟩) | (rintro _ _ ⟨g, rfl, rfl⟩) | (rintro _ _ ⟨A', c', rfl, rfl⟩))) | ((refine GO2 ?_ ?_) <;> intro h <;> (try (repeat (first | with_reducible (replace h := of_decide_eq_true h) | with_reducible (replace h := of_decide_eq_false h) | with_reducible (replace h := bnt h) | with_reducible (replace h := bnf h) | with_reducible (replace h := Int.not_lt.mp h) | with_reducible (replace h := Int.not_le.mp h) | with_reducible (replace h := band_dec h) | with_reducible (replace h := band_decF h) | with_reducible (replace h := bor_dec h) | with_reducible (replace h := bor_decF h)))) <;> (try (exfalso; first | contradiction | omega))) | fail)
  all_goals first
    | (exfalso; omega)
    | ((refine At_ret Try.results28 rfl (fun w' hw => ?_)); exact ⟨rfl, hw.anyN 0⟩)
set_option maxRecDepth 100000 in
theorem back0_any (i : Int) : Calls Try.prog 29 #[.pointer (some ⟨gm, 0, none⟩), .int .i64 i] w fun e w' => e = .returned (.tuple #[]) ∧ Mem ⟨0, blks [entBlk gm 79 #[.bool fast, .slice (some ⟨gS, 0, none⟩) nn nn, .slice AP np cP, .slice none 0 0, .slice none 0 0]], w⟩ w' [entBlk gm 79 #[.bool fast, .slice (some ⟨gS, 0, none⟩) nn nn, .slice AP np cP, .slice none 0 0, .slice none 0 0]] := by
  generalize blks [entBlk gm 79 #[.bool fast, .slice (some ⟨gS, 0, none⟩) nn nn, .slice AP np cP, .slice none 0 0, .slice none 0 0]] = F at hM ⊢
  refine calls_T F Try.func29 rfl Try.ntmps29 (by simp) (hM.anyN _) ?_
  repeat' (first | ((with_reducible (first | apply TD_e2z | apply TD_e3z | apply TL_e | apply TD_e2 | apply TD_e3)); exact ESarm_SvK; (first | exact rfl | exact ⟨rfl, rfl, rfl⟩); (first | (rintro _ _ ⟨rfl, rfl⟩) | (rintro _ _ ⟨g, rfl, rfl⟩) | (rintro _ _ ⟨A', c', rfl, rfl⟩)); (try refine ⟨SUB, ?_⟩)) | (refine GO ?_) | (refine GOE ?_; (first | (rintro _ _ ⟨rfl, rfl⟩) | (rintro _ _ ⟨g, rfl, rfl⟩) | (rintro _ _ ⟨A', c', rfl, rfl⟩))) | ((refine GO2 ?_ ?_) <;> intro h <;> (try (repeat (first | with_reducible (replace h := of_decide_eq_true h) | with_reducible (replace h := of_decide_eq_false h) | with_reducible (replace h := bnt h) | with_reducible (replace h := bnf h) | with_reducible (replace h := Int.not_lt.mp h) | with_reducible (replace h := Int.not_le.mp h) | with_reducible (replace h := band_dec h) | with_reducible (replace h := band_decF h) | with_reducible (replace h := bor_dec h) | with_reducible (replace h := bor_decF h)))) <;> (try (exfalso; first | contradiction | omega))) | fail)
  all_goals first
    | (exfalso; omega)
    | ((refine At_ret Try.results29 rfl (fun w' hw => ?_)); exact ⟨rfl, hw.anyN 0⟩)
end
section
variable (n : Int) (fast : Bool) (D0 B0 : Option Addr) (e0 d0 : Nat) (hs : List Hd) (ps : List (List Ak)) (l : List Ac) (w : World) (hpl : ps.length ≤ 9223372036854775807) (hll : l.length ≤ 9223372036854775807) (hD : RdRows Ak.enc 3 w D0 hs ps) (hB : RdE Ac.enc 2 w B0 l)
include hpl hll hD hB
set_option maxRecDepth 100000 in
set_option maxHeartbeats 40000000 in
theorem svPlay_any : Calls Try.prog 6 #[.int .i64 n, .bool fast, .slice D0 hs.length e0, .slice B0 l.length d0] w (PlayPost3 (plV n fast ps l) w) := by
  have hck := fun w h1 h2 => svCheck_any n D0 B0 e0 d0 hs ps l w hpl hll h1 h2
  have hrows : ∀ {C : Ctx} {w' : World} {S : List Ent}, C.F = [] → C.w0 = w → Mem C w' S → RdRows Ak.enc 3 w' D0 hs ps := fun hF h0 hw =>
    ⟨hw.rd hF (by rw [h0]; exact hD.1), hD.2.1, fun j h1 h2 => ⟨(hD.2.2 j h1 h2).1, (hD.2.2 j h1 h2).2.1, (hD.2.2 j h1 h2).2.2.1, hw.rd hF (by rw [h0]; exact (hD.2.2 j h1 h2).2.2.2)⟩⟩
  have hlen : hs.length = ps.length := hD.2.1
  unfold plV PlayPost3
  refine calls_T (S := []) [] Try.func6 rfl Try.ntmps6 (by simp) (Mem.nil _) ?_
  by_cases h0 : actsE n ps l = 0
  case neg =>
    rw [if_pos h0]
    generalize actsE n ps l = Z at *
    repeat' (first | ((with_reducible (first | apply TD_e2z | apply TD_e3z | apply TL_e | apply TD_e2 | apply TD_e3)); exact ESarm_SvK; (first | exact rfl | exact ⟨rfl, rfl, rfl⟩); (first | (rintro _ _ ⟨rfl, rfl⟩) | (rintro _ _ ⟨g, rfl, rfl⟩) | (rintro _ _ ⟨A', c', rfl, rfl⟩)); (try refine ⟨SUB, ?_⟩)) | (refine GO ?_) | (refine GOE ?_; (first | (rintro _ _ ⟨rfl, rfl⟩) | (rintro _ _ ⟨g, rfl, rfl⟩) | (rintro _ _ ⟨A', c', rfl, rfl⟩))) | ((refine GO2 ?_ ?_) <;> intro h <;> (try (repeat (first | with_reducible (replace h := of_decide_eq_true h) | with_reducible (replace h := of_decide_eq_false h) | with_reducible (replace h := bnt h) | with_reducible (replace h := bnf h) | with_reducible (replace h := Int.not_lt.mp h) | with_reducible (replace h := Int.not_le.mp h) | with_reducible (replace h := band_dec h) | with_reducible (replace h := band_decF h) | with_reducible (replace h := bor_dec h) | with_reducible (replace h := bor_decF h)))) <;> (try (exfalso; first | contradiction | omega))) | ((with_reducible (first | apply TD_e2z | apply TD_e3z | apply TL_e | apply TD_e2 | apply TD_e3)); ((with_reducible apply ES_callV (f := 26)); exact rfl; (intro w hw; exact hck w (hrows rfl rfl hw) (hw.rd rfl hB)); exact rfl); (first | exact rfl | exact ⟨rfl, rfl, rfl⟩); (rintro _ _ ⟨rfl, rfl⟩); (try refine ⟨SUB, ?_⟩)) | fail)
    all_goals first
      | (exfalso; omega)
      | ((refine At_ret Try.results6 rfl (fun w' hw => ?_)); exact ⟨((none, 0), (none, 0)), rfl, ((((hw.sub (List.nil_sublist _)).anyN 0).nilOwn Si.enc 4 37).nilOwn Ev.enc 4 34)⟩)
  rw [if_neg (by simp [h0])]
  rw [h0] at hck
  obtain ⟨hn1, hn5, hpp, hl1000, hact⟩ := actsE_ok h0
  obtain ⟨nn, rfl⟩ : ∃ nn : Nat, n = nn := ⟨n.toNat, by omega⟩
  rw [Int.toNat_natCast] at hact ⊢
  obtain ⟨hty, h8, hps⟩ := pplR_ok hpp
  have hrun := fun k hk => CB_of (ps := ps) (by omega : nn ≤ 5) (runV_ok (n := nn) (fast := fast) h8 hact k hk) (run_sim (n := nn) (fast := fast) h8 hact k hk) (by omega)
  have hsuc : ∀ k (hk : k < l.length), runC nn fast ps l (k + 1) = actC nn fast ps (runC nn fast ps l k) l[k] := fun k hk => by rw [runC, show l.getD k default = l[k] by simp [hk]]
  have hr0 : runC nn fast ps l 0 = cv0 nn ps.length := rfl
  have hp0 := PvsOk0 (n := nn) hD
  rw [← hr0] at hp0
  obtain ⟨hD1, hD2, hD3⟩ := hD
  repeat' (first | ((with_reducible (first | apply TD_e2z | apply TD_e3z | apply TL_e | apply TD_e2 | apply TD_e3)); exact ESarm_SvK; (first | exact rfl | exact ⟨rfl, rfl, rfl⟩); (first | (rintro _ _ ⟨rfl, rfl⟩) | (rintro _ _ ⟨g, rfl, rfl⟩) | (rintro _ _ ⟨A', c', rfl, rfl⟩)); (try refine ⟨SUB, ?_⟩)) | (refine GO ?_) | (refine GOE ?_; (first | (rintro _ _ ⟨rfl, rfl⟩) | (rintro _ _ ⟨g, rfl, rfl⟩) | (rintro _ _ ⟨A', c', rfl, rfl⟩))) | ((refine GO2 ?_ ?_) <;> intro h <;> (try (repeat (first | with_reducible (replace h := of_decide_eq_true h) | with_reducible (replace h := of_decide_eq_false h) | with_reducible (replace h := bnt h) | with_reducible (replace h := bnf h) | with_reducible (replace h := Int.not_lt.mp h) | with_reducible (replace h := Int.not_le.mp h) | with_reducible (replace h := band_dec h) | with_reducible (replace h := band_decF h) | with_reducible (replace h := bor_dec h) | with_reducible (replace h := bor_decF h)))) <;> (try (exfalso; first | contradiction | omega))) | ((with_reducible (first | apply TD_e2z | apply TD_e3z | apply TL_e | apply TD_e2 | apply TD_e3)); ((with_reducible apply ES_callV (f := 26)); exact rfl; (intro w hw; exact hck w (hrows rfl rfl hw) (hw.rd rfl hB)); exact rfl); (first | exact rfl | exact ⟨rfl, rfl, rfl⟩); (rintro _ _ ⟨rfl, rfl⟩); (try refine ⟨SUB, ?_⟩)) | fail)
  all_goals first | (exfalso; omega) | skip
  obtain ⟨gm, rfl⟩ : ∃ x, x = g := ⟨_, rfl⟩
  obtain ⟨gS, rfl⟩ : ∃ x, x = g := ⟨_, rfl⟩
  refine T_loop (X := Nat × (Option Addr × Nat)) (fun x => [(31, .int .i64 (x.1 : Nat)), (30, .int .i64 hs.length), (29, .slice D0 hs.length e0), (12, .pointer (some ⟨gm, 0, none⟩)), (3, .slice B0 l.length d0)])
    (fun x => [entBlk gm 79 #[.bool fast, .slice (some ⟨gS, 0, none⟩) nn nn, .slice x.2.1 ((hs.take x.1).map fq0).length x.2.2, .slice none 0 0, .slice none 0 0], entOwn Si.enc 4 37 (some ⟨gS, 0, none⟩) nn (List.replicate nn ⟨0, 0, 0, false⟩), entOwn Fq.enc 8 84 x.2.1 x.2.2 ((hs.take x.1).map fq0)])
    (fun x => x.1 ≤ hs.length) (fun x => hs.length - x.1) (0, (none, 0)) (by (try dsimp only); omega) (by (repeat (first | exact SubE.nil _ | refine SubE.cons rfl ?_))) (fun w' hw => by
      have h1 := hw.nilOwn Fq.enc 8 84
      show Mem _ w' [entBlk gm 79 #[.bool fast, .slice (some ⟨gS, 0, none⟩) nn nn, .slice none 0 0, .slice none 0 0, .slice none 0 0], _, entOwn Fq.enc 8 84 none 0 []]
      exact h1.sel (by (repeat (first | exact Sel.nil _ | (apply Sel.cons; (repeat (first | with_reducible exact Pick.here _ _ | with_reducible apply Pick.there))))))) ?_
  rintro ⟨k, ⟨AP, cP⟩⟩ hk
  dsimp only at hk ⊢
  by_cases hkl : k < hs.length
  · obtain ⟨bD, oD, rfl, _⟩ := RdE.open hD1 (by omega)
    have hnx : (hs.take (k + 1)).map fq0 = (hs.take k).map fq0 ++ [fq0 hs[k]] := by
      rw [List.take_add_one, List.map_append]; simp [hkl]
    have hll : ((hs.take k).map fq0).length ≤ 8 := by simp; omega
    generalize (hs.take k).map fq0 = O at *
    repeat' (first | ((with_reducible (first | apply TD_e2z | apply TD_e3z | apply TL_e | apply TD_e2 | apply TD_e3)); exact ESarm_SvK; (first | exact rfl | exact ⟨rfl, rfl, rfl⟩); (first | (rintro _ _ ⟨rfl, rfl⟩) | (rintro _ _ ⟨g, rfl, rfl⟩) | (rintro _ _ ⟨A', c', rfl, rfl⟩)); (try refine ⟨SUB, ?_⟩)) | (refine GO ?_) | (refine GOE ?_; (first | (rintro _ _ ⟨rfl, rfl⟩) | (rintro _ _ ⟨g, rfl, rfl⟩) | (rintro _ _ ⟨A', c', rfl, rfl⟩))) | ((refine GO2 ?_ ?_) <;> intro h <;> (try (repeat (first | with_reducible (replace h := of_decide_eq_true h) | with_reducible (replace h := of_decide_eq_false h) | with_reducible (replace h := bnt h) | with_reducible (replace h := bnf h) | with_reducible (replace h := Int.not_lt.mp h) | with_reducible (replace h := Int.not_le.mp h) | with_reducible (replace h := band_dec h) | with_reducible (replace h := band_decF h) | with_reducible (replace h := bor_dec h) | with_reducible (replace h := bor_decF h)))) <;> (try (exfalso; first | contradiction | omega))) | ((with_reducible (first | apply TD_e2z | apply TD_e3z | apply TL_e | apply TD_e2 | apply TD_e3)); ((with_reducible apply ES_append1 (enc := Fq.enc) (xx := (fq0 hs[k]))); exact rfl; exact rfl; (repeat (first | with_reducible exact List.mem_cons_self | with_reducible apply List.mem_cons_of_mem)); exact rfl; exact fun _ => rfl; exact fun _ => rfl; (intro A' c'; first | ((repeat (first | with_reducible exact Upd.here _ _ _ | with_reducible apply Upd.there)); done) | (repeat (first | exact Upd.here _ _ _ | apply Upd.there))); (omega); decide; exact rfl); (first | exact rfl | exact ⟨rfl, rfl, rfl⟩); (rintro _ _ ⟨A', c', rfl, rfl⟩); (try refine ⟨SUB, ?_⟩)) | fail)
    apply At_rounds (k + 1, (A', c'))
    case hE => (repeat (first | exact SubE.nil _ | refine SubE.cons rfl ?_))
    case hS =>
      intro w' hw
      dsimp only
      rw [hnx]
      exact hw.sel (by (repeat (first | exact Sel.nil _ | (apply Sel.cons; (repeat (first | with_reducible exact Pick.here _ _ | with_reducible apply Pick.there))))))
    case hμ => (try dsimp only); omega
    case hp => exact hkl
  obtain rfl : k = hs.length := by omega
  rw [List.take_length]
  repeat' (first | ((with_reducible (first | apply TD_e2z | apply TD_e3z | apply TL_e | apply TD_e2 | apply TD_e3)); exact ESarm_SvK; (first | exact rfl | exact ⟨rfl, rfl, rfl⟩); (first | (rintro _ _ ⟨rfl, rfl⟩) | (rintro _ _ ⟨g, rfl, rfl⟩) | (rintro _ _ ⟨A', c', rfl, rfl⟩)); (try refine ⟨SUB, ?_⟩)) | (refine GO ?_) | (refine GOE ?_; (first | (rintro _ _ ⟨rfl, rfl⟩) | (rintro _ _ ⟨g, rfl, rfl⟩) | (rintro _ _ ⟨A', c', rfl, rfl⟩))) | ((refine GO2 ?_ ?_) <;> intro h <;> (try (repeat (first | with_reducible (replace h := of_decide_eq_true h) | with_reducible (replace h := of_decide_eq_false h) | with_reducible (replace h := bnt h) | with_reducible (replace h := bnf h) | with_reducible (replace h := Int.not_lt.mp h) | with_reducible (replace h := Int.not_le.mp h) | with_reducible (replace h := band_dec h) | with_reducible (replace h := band_decF h) | with_reducible (replace h := bor_dec h) | with_reducible (replace h := bor_decF h)))) <;> (try (exfalso; first | contradiction | omega))) | fail)
  by_cases hn : 0 < hs.length
  · refine T_own (enc := Fq.enc) (ls := hs.map fq0) (by first | ((repeat (first | with_reducible exact List.mem_cons_self | with_reducible apply List.mem_cons_of_mem)); done) | (repeat (first | exact List.Mem.head _ | apply List.Mem.tail))) (by simpa using hn) ?_
    rintro gP rfl
    refine T_loop (X := Nat × List Fq × (Option Addr × Nat) × (Option Addr × Nat)) (fun x => [(49, .int .i64 (x.1 : Nat)), (48, .int .i64 l.length), (47, .slice B0 l.length d0), (12, .pointer (some ⟨gm, 0, none⟩))])
      (fun x => netV ⟨gm, gS, nn, gP, cP⟩ fast (runC nn fast ps l x.1).at_ x.2.1 ((runC nn fast ps l x.1).ml.map fl) (runC nn fast ps l x.1).evs x.2.2.1 x.2.2.2)
      (fun x => x.1 ≤ l.length ∧ PvsOk ps w (runC nn fast ps l x.1) x.2.1) (fun x => l.length - x.1) (0, hs.map fq0, (none, 0), (none, 0)) ⟨by (try dsimp only); omega, hp0⟩ (by (repeat (first | exact SubE.nil _ | refine SubE.cons rfl ?_))) (fun w' hw => by
        have h1 := (hw.nilOwn Fl.enc 9 134).nilOwn Ev.enc 4 34
        dsimp only [netV]
        rw [hr0]
        dsimp only [cv0, List.map_nil]
        rw [List.length_replicate]
        show Mem _ w' [entBlk gm 79 #[.bool fast, .slice (some ⟨gS, 0, none⟩) nn nn, .slice (some ⟨gP, 0, none⟩) (hs.map fq0).length cP, .slice none 0 0, .slice none 0 0], entOwn Si.enc 4 37 (some ⟨gS, 0, none⟩) nn (List.replicate nn ⟨0, 0, 0, false⟩), entOwn Fq.enc 8 84 (some ⟨gP, 0, none⟩) cP (hs.map fq0), entOwn Fl.enc 9 134 none 0 [], entOwn Ev.enc 4 34 none 0 []]
        exact h1.sel (by (repeat (first | exact Sel.nil _ | (apply Sel.cons; (repeat (first | with_reducible exact Pick.here _ _ | with_reducible apply Pick.there))))))) ?_
    rintro ⟨k, pr, y, x⟩ ⟨hk, hplk⟩
    dsimp only at hk hplk ⊢
    have hokk := hrun k hk
    by_cases hkl : k < l.length
    · obtain ⟨bB, oB, rfl, _⟩ := RdE.open hB (by omega)
      have hsk := hsuc k hkl
      have ha := hact k hkl
      rw [show l.getD k default = l[k] by simp [hkl]] at ha
      clear hrun hsuc hact hp0 hr0
      obtain ⟨c', hc'⟩ : ∃ c', runC nn fast ps l (k + 1) = c' := ⟨_, rfl⟩
      rw [hc'] at hsk
      unfold actC at hsk
      have hlm : ((runC nn fast ps l k).ml.map fl).length = (runC nn fast ps l k).ml.length := List.length_map _
      have hkd : l[k].kind = 1 ∨ l[k].kind = 2 ∨ l[k].kind = 3 ∨ l[k].kind = 4 := by have := ha.1; have := ha.2.1; omega
      rcases hkd with e | e | e | e
      · rw [if_pos e] at hsk
        have hzz : ((l[k].a.toNat : Nat) : Int) = l[k].a := by have := ha.2.2.1 e; omega
        have hlt : l[k].a.toNat < ps.length := by have := ha.2.2.1 e; omega
        have hc := fun (C : Ctx) (R' : List Ent) (W : World) (hw : Mem C W (netV ⟨gm, gS, nn, gP, cP⟩ fast (runC nn fast ps l k).at_ pr ((runC nn fast ps l k).ml.map fl) (runC nn fast ps l k).evs y x ++ R')) (h1 : C.F = []) (h2 : C.w0 = w) => (show Calls Try.prog 27 #[.pointer (some ⟨gm, 0, none⟩), .int .i64 l[k].a] W (AcPost ⟨gm, gS, nn, gP, cP⟩ fast ps w (runC nn fast ps l k) c' pr y x W) by (have h3 := callC_any ⟨gm, gS, nn, gP, cP⟩ fast nn ps (runC nn fast ps l k) pr y x hw h1 (by rw [h2]; exact hplk) hokk hlt); rw [h2] at h3; first | exact h3 | (rw [hzz] at h3; rw [hsk]; exact h3) | (rw [hsk]; exact h3))
        unfold AcPost at hc
        clear hplk hokk hsk
        repeat' (first | ((with_reducible (first | apply TD_e2z | apply TD_e3z | apply TL_e | apply TD_e2 | apply TD_e3)); exact ESarm_SvK; (first | exact rfl | exact ⟨rfl, rfl, rfl⟩); (first | (rintro _ _ ⟨rfl, rfl⟩) | (rintro _ _ ⟨g, rfl, rfl⟩) | (rintro _ _ ⟨A', c', rfl, rfl⟩)); (try refine ⟨SUB, ?_⟩)) | (refine GO ?_) | (refine GOE ?_; (first | (rintro _ _ ⟨rfl, rfl⟩) | (rintro _ _ ⟨g, rfl, rfl⟩) | (rintro _ _ ⟨A', c', rfl, rfl⟩))) | ((refine GO2 ?_ ?_) <;> intro h <;> (try (repeat (first | with_reducible (replace h := of_decide_eq_true h) | with_reducible (replace h := of_decide_eq_false h) | with_reducible (replace h := bnt h) | with_reducible (replace h := bnf h) | with_reducible (replace h := Int.not_lt.mp h) | with_reducible (replace h := Int.not_le.mp h) | with_reducible (replace h := band_dec h) | with_reducible (replace h := band_decF h) | with_reducible (replace h := bor_dec h) | with_reducible (replace h := bor_decF h)))) <;> (try (exfalso; first | contradiction | omega))) | fail)
        refine TL_e (ES_callX (f := 27) (X := {z : List Fq × (Option Addr × Nat) × (Option Addr × Nat) // PvsOk ps w c' z.1}) (S1 := netV ⟨gm, gS, nn, gP, cP⟩ fast (runC nn fast ps l k).at_ pr ((runC nn fast ps l k).ml.map fl) (runC nn fast ps l k).evs y x) (fun _ => .tuple #[]) (fun z => netV ⟨gm, gS, nn, gP, cP⟩ fast c'.at_ z.1.1 (c'.ml.map fl) c'.evs z.1.2.1 z.1.2.2) rfl (by dsimp only [netV]; (repeat (first | exact Pull.nil _ | (apply Pull.cons; (repeat (first | with_reducible exact Pick.here _ _ | with_reducible apply Pick.there)))))) (fun z => by dsimp only [netV]; repeat (first | exact AppL.nil _ | apply AppL.cons)) (fun w' hw => hc _ _ w' hw rfl rfl) rfl) rfl ?_
        rintro _ _ ⟨⟨⟨pr2, y2, x2⟩, hpl2⟩, rfl, rfl⟩
        dsimp only at hpl2 ⊢
        repeat' (first | ((with_reducible (first | apply TD_e2z | apply TD_e3z | apply TL_e | apply TD_e2 | apply TD_e3)); exact ESarm_SvK; (first | exact rfl | exact ⟨rfl, rfl, rfl⟩); (first | (rintro _ _ ⟨rfl, rfl⟩) | (rintro _ _ ⟨g, rfl, rfl⟩) | (rintro _ _ ⟨A', c', rfl, rfl⟩)); (try refine ⟨SUB, ?_⟩)) | (refine GO ?_) | (refine GOE ?_; (first | (rintro _ _ ⟨rfl, rfl⟩) | (rintro _ _ ⟨g, rfl, rfl⟩) | (rintro _ _ ⟨A', c', rfl, rfl⟩))) | ((refine GO2 ?_ ?_) <;> intro h <;> (try (repeat (first | with_reducible (replace h := of_decide_eq_true h) | with_reducible (replace h := of_decide_eq_false h) | with_reducible (replace h := bnt h) | with_reducible (replace h := bnf h) | with_reducible (replace h := Int.not_lt.mp h) | with_reducible (replace h := Int.not_le.mp h) | with_reducible (replace h := band_dec h) | with_reducible (replace h := band_decF h) | with_reducible (replace h := bor_dec h) | with_reducible (replace h := bor_decF h)))) <;> (try (exfalso; first | contradiction | omega))) | fail)
        (apply At_rounds (k + 1, pr2, y2, x2); (case hE => (repeat (first | exact SubE.nil _ | refine SubE.cons rfl ?_))); (case hS => (intro w' hw; dsimp only [netV]; rw [hc']; exact hw.sel (by (repeat (first | exact Sel.nil _ | (apply Sel.cons; (repeat (first | with_reducible exact Pick.here _ _ | with_reducible apply Pick.there)))))))); (case hμ => ((try dsimp only); omega)); (case hp => exact ⟨hkl, by dsimp only; rw [hc']; exact hpl2⟩))
      · rw [if_neg (by omega), if_neg (by omega)] at hsk
        by_cases ho : l[k].a < 0 ∨ ((runC nn fast ps l k).ml.length : Int) ≤ l[k].a
        · rw [if_pos ho] at hsk
          have hc := fun (C : Ctx) (R' : List Ent) (W : World) (hw : Mem C W (netV ⟨gm, gS, nn, gP, cP⟩ fast (runC nn fast ps l k).at_ pr ((runC nn fast ps l k).ml.map fl) (runC nn fast ps l k).evs y x ++ R')) (h1 : C.F = []) (h2 : C.w0 = w) => (show Calls Try.prog 28 #[.pointer (some ⟨gm, 0, none⟩), .int .i64 l[k].a] W (AcPost ⟨gm, gS, nn, gP, cP⟩ fast ps w (runC nn fast ps l k) c' pr y x W) by (have h3 := handOut_any ⟨gm, gS, nn, gP, cP⟩ fast nn ps (runC nn fast ps l k) pr y x hw h1 (by rw [h2]; exact hplk) hokk ho); rw [h2] at h3; first | exact h3 | (rw [hzz] at h3; rw [hsk]; exact h3) | (rw [hsk]; exact h3))
          unfold AcPost at hc
          clear hplk hokk hsk
          repeat' (first | ((with_reducible (first | apply TD_e2z | apply TD_e3z | apply TL_e | apply TD_e2 | apply TD_e3)); exact ESarm_SvK; (first | exact rfl | exact ⟨rfl, rfl, rfl⟩); (first | (rintro _ _ ⟨rfl, rfl⟩) | (rintro _ _ ⟨g, rfl, rfl⟩) | (rintro _ _ ⟨A', c', rfl, rfl⟩)); (try refine ⟨SUB, ?_⟩)) | (refine GO ?_) | (refine GOE ?_; (first | (rintro _ _ ⟨rfl, rfl⟩) | (rintro _ _ ⟨g, rfl, rfl⟩) | (rintro _ _ ⟨A', c', rfl, rfl⟩))) | ((refine GO2 ?_ ?_) <;> intro h <;> (try (repeat (first | with_reducible (replace h := of_decide_eq_true h) | with_reducible (replace h := of_decide_eq_false h) | with_reducible (replace h := bnt h) | with_reducible (replace h := bnf h) | with_reducible (replace h := Int.not_lt.mp h) | with_reducible (replace h := Int.not_le.mp h) | with_reducible (replace h := band_dec h) | with_reducible (replace h := band_decF h) | with_reducible (replace h := bor_dec h) | with_reducible (replace h := bor_decF h)))) <;> (try (exfalso; first | contradiction | omega))) | fail)
          refine TL_e (ES_callX (f := 28) (X := {z : List Fq × (Option Addr × Nat) × (Option Addr × Nat) // PvsOk ps w c' z.1}) (S1 := netV ⟨gm, gS, nn, gP, cP⟩ fast (runC nn fast ps l k).at_ pr ((runC nn fast ps l k).ml.map fl) (runC nn fast ps l k).evs y x) (fun _ => .tuple #[]) (fun z => netV ⟨gm, gS, nn, gP, cP⟩ fast c'.at_ z.1.1 (c'.ml.map fl) c'.evs z.1.2.1 z.1.2.2) rfl (by dsimp only [netV]; (repeat (first | exact Pull.nil _ | (apply Pull.cons; (repeat (first | with_reducible exact Pick.here _ _ | with_reducible apply Pick.there)))))) (fun z => by dsimp only [netV]; repeat (first | exact AppL.nil _ | apply AppL.cons)) (fun w' hw => hc _ _ w' hw rfl rfl) rfl) rfl ?_
          rintro _ _ ⟨⟨⟨pr2, y2, x2⟩, hpl2⟩, rfl, rfl⟩
          dsimp only at hpl2 ⊢
          repeat' (first | ((with_reducible (first | apply TD_e2z | apply TD_e3z | apply TL_e | apply TD_e2 | apply TD_e3)); exact ESarm_SvK; (first | exact rfl | exact ⟨rfl, rfl, rfl⟩); (first | (rintro _ _ ⟨rfl, rfl⟩) | (rintro _ _ ⟨g, rfl, rfl⟩) | (rintro _ _ ⟨A', c', rfl, rfl⟩)); (try refine ⟨SUB, ?_⟩)) | (refine GO ?_) | (refine GOE ?_; (first | (rintro _ _ ⟨rfl, rfl⟩) | (rintro _ _ ⟨g, rfl, rfl⟩) | (rintro _ _ ⟨A', c', rfl, rfl⟩))) | ((refine GO2 ?_ ?_) <;> intro h <;> (try (repeat (first | with_reducible (replace h := of_decide_eq_true h) | with_reducible (replace h := of_decide_eq_false h) | with_reducible (replace h := bnt h) | with_reducible (replace h := bnf h) | with_reducible (replace h := Int.not_lt.mp h) | with_reducible (replace h := Int.not_le.mp h) | with_reducible (replace h := band_dec h) | with_reducible (replace h := band_decF h) | with_reducible (replace h := bor_dec h) | with_reducible (replace h := bor_decF h)))) <;> (try (exfalso; first | contradiction | omega))) | fail)
          (apply At_rounds (k + 1, pr2, y2, x2); (case hE => (repeat (first | exact SubE.nil _ | refine SubE.cons rfl ?_))); (case hS => (intro w' hw; dsimp only [netV]; rw [hc']; exact hw.sel (by (repeat (first | exact Sel.nil _ | (apply Sel.cons; (repeat (first | with_reducible exact Pick.here _ _ | with_reducible apply Pick.there)))))))); (case hμ => ((try dsimp only); omega)); (case hp => exact ⟨hkl, by dsimp only; rw [hc']; exact hpl2⟩))
        · rw [if_neg ho, if_pos e] at hsk
          have hzz : ((l[k].a.toNat : Nat) : Int) = l[k].a := by omega
          have hlt : l[k].a.toNat < (runC nn fast ps l k).ml.length := by omega
          have hc := fun (C : Ctx) (R' : List Ent) (W : World) (hw : Mem C W (netV ⟨gm, gS, nn, gP, cP⟩ fast (runC nn fast ps l k).at_ pr ((runC nn fast ps l k).ml.map fl) (runC nn fast ps l k).evs y x ++ R')) (h1 : C.F = []) (h2 : C.w0 = w) => (show Calls Try.prog 28 #[.pointer (some ⟨gm, 0, none⟩), .int .i64 l[k].a] W (AcPost ⟨gm, gS, nn, gP, cP⟩ fast ps w (runC nn fast ps l k) c' pr y x W) by (have h3 := handC_any ⟨gm, gS, nn, gP, cP⟩ fast nn ps (runC nn fast ps l k) pr y x hw h1 (by rw [h2]; exact hplk) hokk hlt); rw [h2] at h3; first | exact h3 | (rw [hzz] at h3; rw [hsk]; exact h3) | (rw [hsk]; exact h3))
          unfold AcPost at hc
          clear hplk hokk hsk
          repeat' (first | ((with_reducible (first | apply TD_e2z | apply TD_e3z | apply TL_e | apply TD_e2 | apply TD_e3)); exact ESarm_SvK; (first | exact rfl | exact ⟨rfl, rfl, rfl⟩); (first | (rintro _ _ ⟨rfl, rfl⟩) | (rintro _ _ ⟨g, rfl, rfl⟩) | (rintro _ _ ⟨A', c', rfl, rfl⟩)); (try refine ⟨SUB, ?_⟩)) | (refine GO ?_) | (refine GOE ?_; (first | (rintro _ _ ⟨rfl, rfl⟩) | (rintro _ _ ⟨g, rfl, rfl⟩) | (rintro _ _ ⟨A', c', rfl, rfl⟩))) | ((refine GO2 ?_ ?_) <;> intro h <;> (try (repeat (first | with_reducible (replace h := of_decide_eq_true h) | with_reducible (replace h := of_decide_eq_false h) | with_reducible (replace h := bnt h) | with_reducible (replace h := bnf h) | with_reducible (replace h := Int.not_lt.mp h) | with_reducible (replace h := Int.not_le.mp h) | with_reducible (replace h := band_dec h) | with_reducible (replace h := band_decF h) | with_reducible (replace h := bor_dec h) | with_reducible (replace h := bor_decF h)))) <;> (try (exfalso; first | contradiction | omega))) | fail)
          refine TL_e (ES_callX (f := 28) (X := {z : List Fq × (Option Addr × Nat) × (Option Addr × Nat) // PvsOk ps w c' z.1}) (S1 := netV ⟨gm, gS, nn, gP, cP⟩ fast (runC nn fast ps l k).at_ pr ((runC nn fast ps l k).ml.map fl) (runC nn fast ps l k).evs y x) (fun _ => .tuple #[]) (fun z => netV ⟨gm, gS, nn, gP, cP⟩ fast c'.at_ z.1.1 (c'.ml.map fl) c'.evs z.1.2.1 z.1.2.2) rfl (by dsimp only [netV]; (repeat (first | exact Pull.nil _ | (apply Pull.cons; (repeat (first | with_reducible exact Pick.here _ _ | with_reducible apply Pick.there)))))) (fun z => by dsimp only [netV]; repeat (first | exact AppL.nil _ | apply AppL.cons)) (fun w' hw => hc _ _ w' hw rfl rfl) rfl) rfl ?_
          rintro _ _ ⟨⟨⟨pr2, y2, x2⟩, hpl2⟩, rfl, rfl⟩
          dsimp only at hpl2 ⊢
          repeat' (first | ((with_reducible (first | apply TD_e2z | apply TD_e3z | apply TL_e | apply TD_e2 | apply TD_e3)); exact ESarm_SvK; (first | exact rfl | exact ⟨rfl, rfl, rfl⟩); (first | (rintro _ _ ⟨rfl, rfl⟩) | (rintro _ _ ⟨g, rfl, rfl⟩) | (rintro _ _ ⟨A', c', rfl, rfl⟩)); (try refine ⟨SUB, ?_⟩)) | (refine GO ?_) | (refine GOE ?_; (first | (rintro _ _ ⟨rfl, rfl⟩) | (rintro _ _ ⟨g, rfl, rfl⟩) | (rintro _ _ ⟨A', c', rfl, rfl⟩))) | ((refine GO2 ?_ ?_) <;> intro h <;> (try (repeat (first | with_reducible (replace h := of_decide_eq_true h) | with_reducible (replace h := of_decide_eq_false h) | with_reducible (replace h := bnt h) | with_reducible (replace h := bnf h) | with_reducible (replace h := Int.not_lt.mp h) | with_reducible (replace h := Int.not_le.mp h) | with_reducible (replace h := band_dec h) | with_reducible (replace h := band_decF h) | with_reducible (replace h := bor_dec h) | with_reducible (replace h := bor_decF h)))) <;> (try (exfalso; first | contradiction | omega))) | fail)
          (apply At_rounds (k + 1, pr2, y2, x2); (case hE => (repeat (first | exact SubE.nil _ | refine SubE.cons rfl ?_))); (case hS => (intro w' hw; dsimp only [netV]; rw [hc']; exact hw.sel (by (repeat (first | exact Sel.nil _ | (apply Sel.cons; (repeat (first | with_reducible exact Pick.here _ _ | with_reducible apply Pick.there)))))))); (case hμ => ((try dsimp only); omega)); (case hp => exact ⟨hkl, by dsimp only; rw [hc']; exact hpl2⟩))
      · rw [if_neg (by omega), if_neg (by omega)] at hsk
        by_cases ho : l[k].a < 0 ∨ ((runC nn fast ps l k).ml.length : Int) ≤ l[k].a
        · rw [if_pos ho] at hsk
          have hc := fun (C : Ctx) (R' : List Ent) (W : World) (hw : Mem C W (netV ⟨gm, gS, nn, gP, cP⟩ fast (runC nn fast ps l k).at_ pr ((runC nn fast ps l k).ml.map fl) (runC nn fast ps l k).evs y x ++ R')) (h1 : C.F = []) (h2 : C.w0 = w) => (show Calls Try.prog 29 #[.pointer (some ⟨gm, 0, none⟩), .int .i64 l[k].a] W (AcPost ⟨gm, gS, nn, gP, cP⟩ fast ps w (runC nn fast ps l k) c' pr y x W) by (have h3 := backOut_any ⟨gm, gS, nn, gP, cP⟩ fast nn ps (runC nn fast ps l k) pr y x hw h1 (by rw [h2]; exact hplk) hokk ho); rw [h2] at h3; first | exact h3 | (rw [hzz] at h3; rw [hsk]; exact h3) | (rw [hsk]; exact h3))
          unfold AcPost at hc
          clear hplk hokk hsk
          repeat' (first | ((with_reducible (first | apply TD_e2z | apply TD_e3z | apply TL_e | apply TD_e2 | apply TD_e3)); exact ESarm_SvK; (first | exact rfl | exact ⟨rfl, rfl, rfl⟩); (first | (rintro _ _ ⟨rfl, rfl⟩) | (rintro _ _ ⟨g, rfl, rfl⟩) | (rintro _ _ ⟨A', c', rfl, rfl⟩)); (try refine ⟨SUB, ?_⟩)) | (refine GO ?_) | (refine GOE ?_; (first | (rintro _ _ ⟨rfl, rfl⟩) | (rintro _ _ ⟨g, rfl, rfl⟩) | (rintro _ _ ⟨A', c', rfl, rfl⟩))) | ((refine GO2 ?_ ?_) <;> intro h <;> (try (repeat (first | with_reducible (replace h := of_decide_eq_true h) | with_reducible (replace h := of_decide_eq_false h) | with_reducible (replace h := bnt h) | with_reducible (replace h := bnf h) | with_reducible (replace h := Int.not_lt.mp h) | with_reducible (replace h := Int.not_le.mp h) | with_reducible (replace h := band_dec h) | with_reducible (replace h := band_decF h) | with_reducible (replace h := bor_dec h) | with_reducible (replace h := bor_decF h)))) <;> (try (exfalso; first | contradiction | omega))) | fail)
          refine TL_e (ES_callX (f := 29) (X := {z : List Fq × (Option Addr × Nat) × (Option Addr × Nat) // PvsOk ps w c' z.1}) (S1 := netV ⟨gm, gS, nn, gP, cP⟩ fast (runC nn fast ps l k).at_ pr ((runC nn fast ps l k).ml.map fl) (runC nn fast ps l k).evs y x) (fun _ => .tuple #[]) (fun z => netV ⟨gm, gS, nn, gP, cP⟩ fast c'.at_ z.1.1 (c'.ml.map fl) c'.evs z.1.2.1 z.1.2.2) rfl (by dsimp only [netV]; (repeat (first | exact Pull.nil _ | (apply Pull.cons; (repeat (first | with_reducible exact Pick.here _ _ | with_reducible apply Pick.there)))))) (fun z => by dsimp only [netV]; repeat (first | exact AppL.nil _ | apply AppL.cons)) (fun w' hw => hc _ _ w' hw rfl rfl) rfl) rfl ?_
          rintro _ _ ⟨⟨⟨pr2, y2, x2⟩, hpl2⟩, rfl, rfl⟩
          dsimp only at hpl2 ⊢
          repeat' (first | ((with_reducible (first | apply TD_e2z | apply TD_e3z | apply TL_e | apply TD_e2 | apply TD_e3)); exact ESarm_SvK; (first | exact rfl | exact ⟨rfl, rfl, rfl⟩); (first | (rintro _ _ ⟨rfl, rfl⟩) | (rintro _ _ ⟨g, rfl, rfl⟩) | (rintro _ _ ⟨A', c', rfl, rfl⟩)); (try refine ⟨SUB, ?_⟩)) | (refine GO ?_) | (refine GOE ?_; (first | (rintro _ _ ⟨rfl, rfl⟩) | (rintro _ _ ⟨g, rfl, rfl⟩) | (rintro _ _ ⟨A', c', rfl, rfl⟩))) | ((refine GO2 ?_ ?_) <;> intro h <;> (try (repeat (first | with_reducible (replace h := of_decide_eq_true h) | with_reducible (replace h := of_decide_eq_false h) | with_reducible (replace h := bnt h) | with_reducible (replace h := bnf h) | with_reducible (replace h := Int.not_lt.mp h) | with_reducible (replace h := Int.not_le.mp h) | with_reducible (replace h := band_dec h) | with_reducible (replace h := band_decF h) | with_reducible (replace h := bor_dec h) | with_reducible (replace h := bor_decF h)))) <;> (try (exfalso; first | contradiction | omega))) | fail)
          (apply At_rounds (k + 1, pr2, y2, x2); (case hE => (repeat (first | exact SubE.nil _ | refine SubE.cons rfl ?_))); (case hS => (intro w' hw; dsimp only [netV]; rw [hc']; exact hw.sel (by (repeat (first | exact Sel.nil _ | (apply Sel.cons; (repeat (first | with_reducible exact Pick.here _ _ | with_reducible apply Pick.there)))))))); (case hμ => ((try dsimp only); omega)); (case hp => exact ⟨hkl, by dsimp only; rw [hc']; exact hpl2⟩))
        · rw [if_neg ho, if_neg (by omega)] at hsk
          have hzz : ((l[k].a.toNat : Nat) : Int) = l[k].a := by omega
          have hlt : l[k].a.toNat < (runC nn fast ps l k).ml.length := by omega
          have hc := fun (C : Ctx) (R' : List Ent) (W : World) (hw : Mem C W (netV ⟨gm, gS, nn, gP, cP⟩ fast (runC nn fast ps l k).at_ pr ((runC nn fast ps l k).ml.map fl) (runC nn fast ps l k).evs y x ++ R')) (h1 : C.F = []) (h2 : C.w0 = w) => (show Calls Try.prog 29 #[.pointer (some ⟨gm, 0, none⟩), .int .i64 l[k].a] W (AcPost ⟨gm, gS, nn, gP, cP⟩ fast ps w (runC nn fast ps l k) c' pr y x W) by (have h3 := backC_any ⟨gm, gS, nn, gP, cP⟩ fast nn ps (runC nn fast ps l k) pr y x hw h1 (by rw [h2]; exact hplk) hokk hlt); rw [h2] at h3; first | exact h3 | (rw [hzz] at h3; rw [hsk]; exact h3) | (rw [hsk]; exact h3))
          unfold AcPost at hc
          clear hplk hokk hsk
          repeat' (first | ((with_reducible (first | apply TD_e2z | apply TD_e3z | apply TL_e | apply TD_e2 | apply TD_e3)); exact ESarm_SvK; (first | exact rfl | exact ⟨rfl, rfl, rfl⟩); (first | (rintro _ _ ⟨rfl, rfl⟩) | (rintro _ _ ⟨g, rfl, rfl⟩) | (rintro _ _ ⟨A', c', rfl, rfl⟩)); (try refine ⟨SUB, ?_⟩)) | (refine GO ?_) | (refine GOE ?_; (first | (rintro _ _ ⟨rfl, rfl⟩) | (rintro _ _ ⟨g, rfl, rfl⟩) | (rintro _ _ ⟨A', c', rfl, rfl⟩))) | ((refine GO2 ?_ ?_) <;> intro h <;> (try (repeat (first | with_reducible (replace h := of_decide_eq_true h) | with_reducible (replace h := of_decide_eq_false h) | with_reducible (replace h := bnt h) | with_reducible (replace h := bnf h) | with_reducible (replace h := Int.not_lt.mp h) | with_reducible (replace h := Int.not_le.mp h) | with_reducible (replace h := band_dec h) | with_reducible (replace h := band_decF h) | with_reducible (replace h := bor_dec h) | with_reducible (replace h := bor_decF h)))) <;> (try (exfalso; first | contradiction | omega))) | fail)
          refine TL_e (ES_callX (f := 29) (X := {z : List Fq × (Option Addr × Nat) × (Option Addr × Nat) // PvsOk ps w c' z.1}) (S1 := netV ⟨gm, gS, nn, gP, cP⟩ fast (runC nn fast ps l k).at_ pr ((runC nn fast ps l k).ml.map fl) (runC nn fast ps l k).evs y x) (fun _ => .tuple #[]) (fun z => netV ⟨gm, gS, nn, gP, cP⟩ fast c'.at_ z.1.1 (c'.ml.map fl) c'.evs z.1.2.1 z.1.2.2) rfl (by dsimp only [netV]; (repeat (first | exact Pull.nil _ | (apply Pull.cons; (repeat (first | with_reducible exact Pick.here _ _ | with_reducible apply Pick.there)))))) (fun z => by dsimp only [netV]; repeat (first | exact AppL.nil _ | apply AppL.cons)) (fun w' hw => hc _ _ w' hw rfl rfl) rfl) rfl ?_
          rintro _ _ ⟨⟨⟨pr2, y2, x2⟩, hpl2⟩, rfl, rfl⟩
          dsimp only at hpl2 ⊢
          repeat' (first | ((with_reducible (first | apply TD_e2z | apply TD_e3z | apply TL_e | apply TD_e2 | apply TD_e3)); exact ESarm_SvK; (first | exact rfl | exact ⟨rfl, rfl, rfl⟩); (first | (rintro _ _ ⟨rfl, rfl⟩) | (rintro _ _ ⟨g, rfl, rfl⟩) | (rintro _ _ ⟨A', c', rfl, rfl⟩)); (try refine ⟨SUB, ?_⟩)) | (refine GO ?_) | (refine GOE ?_; (first | (rintro _ _ ⟨rfl, rfl⟩) | (rintro _ _ ⟨g, rfl, rfl⟩) | (rintro _ _ ⟨A', c', rfl, rfl⟩))) | ((refine GO2 ?_ ?_) <;> intro h <;> (try (repeat (first | with_reducible (replace h := of_decide_eq_true h) | with_reducible (replace h := of_decide_eq_false h) | with_reducible (replace h := bnt h) | with_reducible (replace h := bnf h) | with_reducible (replace h := Int.not_lt.mp h) | with_reducible (replace h := Int.not_le.mp h) | with_reducible (replace h := band_dec h) | with_reducible (replace h := band_decF h) | with_reducible (replace h := bor_dec h) | with_reducible (replace h := bor_decF h)))) <;> (try (exfalso; first | contradiction | omega))) | fail)
          (apply At_rounds (k + 1, pr2, y2, x2); (case hE => (repeat (first | exact SubE.nil _ | refine SubE.cons rfl ?_))); (case hS => (intro w' hw; dsimp only [netV]; rw [hc']; exact hw.sel (by (repeat (first | exact Sel.nil _ | (apply Sel.cons; (repeat (first | with_reducible exact Pick.here _ _ | with_reducible apply Pick.there)))))))); (case hμ => ((try dsimp only); omega)); (case hp => exact ⟨hkl, by dsimp only; rw [hc']; exact hpl2⟩))
      · rw [if_neg (by omega), if_pos e] at hsk
        have hla := hokk.at_
        have hjl : l[k].a.toNat < (runC nn fast ps l k).at_.length := by have := ha.2.2.2 e; omega
        have hzz : ((l[k].a.toNat : Nat) : Int) = l[k].a := by have := ha.2.2.2 e; omega
        obtain ⟨⟨s1, w1, v1, d1⟩, hpj⟩ : ∃ q, (runC nn fast ps l k).at_[l[k].a.toNat] = q := ⟨_, rfl⟩
        have hpj1 : (runC nn fast ps l k).at_[l[k].a.toNat]? = some _ := (List.getElem?_eq_getElem hjl).trans (congrArg some hpj)
        have e1 : (runC nn fast ps l k).si l[k].a.toNat = ⟨s1, w1, v1, d1⟩ := by unfold Cv.si; simp [hjl, hpj]
        have g1 : c'.at_ = (runC nn fast ps l k).at_.set l[k].a.toNat ⟨s1, w1, v1, true⟩ := by rw [hsk, e1]
        have g2 : c'.ml = (runC nn fast ps l k).ml := by rw [hsk]
        have g3 : c'.evs = (runC nn fast ps l k).evs := by rw [hsk]
        have g4 : c'.pe = (runC nn fast ps l k).pe := by rw [hsk]
        have hpl2 : PvsOk ps w c' pr := hplk.same g4
        clear hplk hokk hsk hpj e1
        dsimp only [netV, netB]
        have hq0 : 0 ≤ l[k].a := by omega
        repeat' (first | ((with_reducible (first | apply TD_e2z | apply TD_e3z | apply TL_e | apply TD_e2 | apply TD_e3)); exact ESarm_SvK; (first | exact rfl | exact ⟨rfl, rfl, rfl⟩); (first | (rintro _ _ ⟨rfl, rfl⟩) | (rintro _ _ ⟨g, rfl, rfl⟩) | (rintro _ _ ⟨A', c', rfl, rfl⟩)); (try refine ⟨SUB, ?_⟩)) | (refine GG ?_) | (refine GE ?_; (first | (rintro _ _ ⟨rfl, rfl⟩) | (rintro _ _ ⟨g, rfl, rfl⟩) | (rintro _ _ ⟨A', c', rfl, rfl⟩)); (try refine ⟨SUB, ?_⟩)) | ((refine GO2 ?_ ?_) <;> intro h <;> (try (repeat (first | with_reducible (replace h := of_decide_eq_true h) | with_reducible (replace h := of_decide_eq_false h) | with_reducible (replace h := bnt h) | with_reducible (replace h := bnf h) | with_reducible (replace h := Int.not_lt.mp h) | with_reducible (replace h := Int.not_le.mp h) | with_reducible (replace h := band_dec h) | with_reducible (replace h := band_decF h) | with_reducible (replace h := bor_dec h) | with_reducible (replace h := bor_decF h)))) <;> (try (exfalso; first | contradiction | omega))) | (refine GOF ?_ ?_) | (refine DRarm0_SvK ?_) | fail)
        all_goals first | (exfalso; omega) | skip
        apply At_rounds (k + 1, pr, y, x)
        case hE => (repeat (first | exact SubE.nil _ | refine SubE.cons rfl ?_))
        case hS =>
          intro w' hw
          dsimp only [netV, netB]
          rw [hc', g1, g2, g3, List.length_set]
          exact hw.sel (by (repeat (first | exact Sel.nil _ | (apply Sel.cons; (repeat (first | with_reducible exact Pick.here _ _ | with_reducible apply Pick.there))))))
        case hμ => (try dsimp only); omega
        case hp => exact ⟨hkl, by dsimp only; rw [hc']; exact hpl2⟩
    · obtain rfl : k = l.length := by omega
      dsimp only [netV, netB]
      repeat' (first | ((with_reducible (first | apply TD_e2z | apply TD_e3z | apply TL_e | apply TD_e2 | apply TD_e3)); exact ESarm_SvK; (first | exact rfl | exact ⟨rfl, rfl, rfl⟩); (first | (rintro _ _ ⟨rfl, rfl⟩) | (rintro _ _ ⟨g, rfl, rfl⟩) | (rintro _ _ ⟨A', c', rfl, rfl⟩)); (try refine ⟨SUB, ?_⟩)) | (refine GG ?_) | (refine GE ?_; (first | (rintro _ _ ⟨rfl, rfl⟩) | (rintro _ _ ⟨g, rfl, rfl⟩) | (rintro _ _ ⟨A', c', rfl, rfl⟩)); (try refine ⟨SUB, ?_⟩)) | ((refine GO2 ?_ ?_) <;> intro h <;> (try (repeat (first | with_reducible (replace h := of_decide_eq_true h) | with_reducible (replace h := of_decide_eq_false h) | with_reducible (replace h := bnt h) | with_reducible (replace h := bnf h) | with_reducible (replace h := Int.not_lt.mp h) | with_reducible (replace h := Int.not_le.mp h) | with_reducible (replace h := band_dec h) | with_reducible (replace h := band_decF h) | with_reducible (replace h := bor_dec h) | with_reducible (replace h := bor_decF h)))) <;> (try (exfalso; first | contradiction | omega))) | (refine GOF ?_ ?_) | (refine DRarm0_SvK ?_) | fail)
      (refine At_ret Try.results6 rfl (fun w' hw => ?_))
      exact ⟨(x, (some ⟨gS, 0, none⟩, nn)), rfl, (hw.anyN 0).sel (by (repeat (first | exact Sel.nil _ | (apply Sel.cons; (repeat (first | with_reducible exact Pick.here _ _ | with_reducible apply Pick.there))))))⟩
  · have hh0 : hs.length = 0 := by omega
    have hps0 : ps = [] := List.length_eq_zero_iff.1 (by omega)
    subst hps0
    have hr := run0 (n := nn) (fast := fast) (l := l) hact
    have e0 : (hs.map fq0).length = 0 := by rw [List.length_map]; exact hh0
    refine T_loop (X := Nat) (fun k => [(49, .int .i64 (k : Nat)), (48, .int .i64 l.length), (47, .slice B0 l.length d0), (12, .pointer (some ⟨gm, 0, none⟩))])
      (fun k => [entBlk gm 79 #[.bool fast, .slice (some ⟨gS, 0, none⟩) nn nn, .slice AP (hs.map fq0).length cP, .slice none 0 0, .slice none 0 0], entOwn Si.enc 4 37 (some ⟨gS, 0, none⟩) nn (runC nn fast [] l k).at_])
      (fun k => k ≤ l.length) (fun k => l.length - k) 0 (by omega) (by (repeat (first | exact SubE.nil _ | refine SubE.cons rfl ?_))) (fun w' hw => by
        rw [hr0]
        dsimp only [cv0]
        exact hw.sel (by (repeat (first | exact Sel.nil _ | (apply Sel.cons; (repeat (first | with_reducible exact Pick.here _ _ | with_reducible apply Pick.there))))))) ?_
    intro k hk
    by_cases hkl : k < l.length
    · obtain ⟨bB, oB, rfl, _⟩ := RdE.open hB (by omega)
      have hsk := hsuc k hkl
      have ha := hact k hkl
      rw [show l.getD k default = l[k] by simp [hkl]] at ha
      have hla := (hrun k hk).at_
      have hml := (hr k hk).1
      clear hrun hsuc hact hp0 hr0
      obtain ⟨c', hc'⟩ : ∃ c', runC nn fast [] l (k + 1) = c' := ⟨_, rfl⟩
      rw [hc'] at hsk
      unfold actC at hsk
      have hkd : l[k].kind = 2 ∨ l[k].kind = 3 ∨ l[k].kind = 4 := by
        have := ha.1; have := ha.2.1
        have h1 : l[k].kind ≠ 1 := fun e => by have h2 := ha.2.2.1 e; simp at h2; omega
        omega
      by_cases e : l[k].kind = 4
      · rw [if_neg (by omega), if_pos e] at hsk
        have hjl : l[k].a.toNat < (runC nn fast [] l k).at_.length := by have := ha.2.2.2 e; omega
        have hzz : ((l[k].a.toNat : Nat) : Int) = l[k].a := by have := ha.2.2.2 e; omega
        obtain ⟨⟨s1, w1, v1, d1⟩, hpj⟩ : ∃ q, (runC nn fast [] l k).at_[l[k].a.toNat] = q := ⟨_, rfl⟩
        have hpj1 : (runC nn fast [] l k).at_[l[k].a.toNat]? = some _ := (List.getElem?_eq_getElem hjl).trans (congrArg some hpj)
        have e1 : (runC nn fast [] l k).si l[k].a.toNat = ⟨s1, w1, v1, d1⟩ := by unfold Cv.si; simp [hjl, hpj]
        have g1 : c'.at_ = (runC nn fast [] l k).at_.set l[k].a.toNat ⟨s1, w1, v1, true⟩ := by rw [hsk, e1]
        clear hsk hpj e1
        have hq0 : 0 ≤ l[k].a := by omega
        repeat' (first | ((with_reducible (first | apply TD_e2z | apply TD_e3z | apply TL_e | apply TD_e2 | apply TD_e3)); exact ESarm_SvK; (first | exact rfl | exact ⟨rfl, rfl, rfl⟩); (first | (rintro _ _ ⟨rfl, rfl⟩) | (rintro _ _ ⟨g, rfl, rfl⟩) | (rintro _ _ ⟨A', c', rfl, rfl⟩)); (try refine ⟨SUB, ?_⟩)) | (refine GG ?_) | (refine GE ?_; (first | (rintro _ _ ⟨rfl, rfl⟩) | (rintro _ _ ⟨g, rfl, rfl⟩) | (rintro _ _ ⟨A', c', rfl, rfl⟩)); (try refine ⟨SUB, ?_⟩)) | ((refine GO2 ?_ ?_) <;> intro h <;> (try (repeat (first | with_reducible (replace h := of_decide_eq_true h) | with_reducible (replace h := of_decide_eq_false h) | with_reducible (replace h := bnt h) | with_reducible (replace h := bnf h) | with_reducible (replace h := Int.not_lt.mp h) | with_reducible (replace h := Int.not_le.mp h) | with_reducible (replace h := band_dec h) | with_reducible (replace h := band_decF h) | with_reducible (replace h := bor_dec h) | with_reducible (replace h := bor_decF h)))) <;> (try (exfalso; first | contradiction | omega))) | (refine GOF ?_ ?_) | (refine DRarm0_SvK ?_) | fail)
        all_goals first | (exfalso; omega) | skip
        apply At_rounds (k + 1)
        case hE => (repeat (first | exact SubE.nil _ | refine SubE.cons rfl ?_))
        case hS =>
          intro w' hw
          (try dsimp only)
          rw [hc', g1]
          exact hw.sel (by (repeat (first | exact Sel.nil _ | (apply Sel.cons; (repeat (first | with_reducible exact Pick.here _ _ | with_reducible apply Pick.there))))))
        case hμ => (try dsimp only); omega
        case hp => exact hkl
      · rw [if_neg (by omega), if_neg e, if_pos (by rw [hml]; show _ ∨ ((0 : Nat) : Int) ≤ _; omega)] at hsk
        have kh := fun (W : World) (F : List Nat) (hM : Mem ⟨0, blks [entBlk gm 79 #[.bool fast, .slice (some ⟨gS, 0, none⟩) nn nn, .slice AP (hs.map fq0).length cP, .slice none 0 0, .slice none 0 0]], W⟩ W [entBlk gm 79 #[.bool fast, .slice (some ⟨gS, 0, none⟩) nn nn, .slice AP (hs.map fq0).length cP, .slice none 0 0, .slice none 0 0]]) => hand0_any gm gS nn (hs.map fq0).length cP AP fast 0 W hM l[k].a
        have kb := fun (W : World) (F : List Nat) (hM : Mem ⟨0, blks [entBlk gm 79 #[.bool fast, .slice (some ⟨gS, 0, none⟩) nn nn, .slice AP (hs.map fq0).length cP, .slice none 0 0, .slice none 0 0]], W⟩ W [entBlk gm 79 #[.bool fast, .slice (some ⟨gS, 0, none⟩) nn nn, .slice AP (hs.map fq0).length cP, .slice none 0 0, .slice none 0 0]]) => back0_any gm gS nn (hs.map fq0).length cP AP fast 0 W hM l[k].a
        repeat' (first | ((with_reducible (first | apply TD_e2z | apply TD_e3z | apply TL_e | apply TD_e2 | apply TD_e3)); exact ESarm_SvK; (first | exact rfl | exact ⟨rfl, rfl, rfl⟩); (first | (rintro _ _ ⟨rfl, rfl⟩) | (rintro _ _ ⟨g, rfl, rfl⟩) | (rintro _ _ ⟨A', c', rfl, rfl⟩)); (try refine ⟨SUB, ?_⟩)) | (refine GO ?_) | (refine GOE ?_; (first | (rintro _ _ ⟨rfl, rfl⟩) | (rintro _ _ ⟨g, rfl, rfl⟩) | (rintro _ _ ⟨A', c', rfl, rfl⟩))) | ((refine GO2 ?_ ?_) <;> intro h <;> (try (repeat (first | with_reducible (replace h := of_decide_eq_true h) | with_reducible (replace h := of_decide_eq_false h) | with_reducible (replace h := bnt h) | with_reducible (replace h := bnf h) | with_reducible (replace h := Int.not_lt.mp h) | with_reducible (replace h := Int.not_le.mp h) | with_reducible (replace h := band_dec h) | with_reducible (replace h := band_decF h) | with_reducible (replace h := bor_dec h) | with_reducible (replace h := bor_decF h)))) <;> (try (exfalso; first | contradiction | omega))) | ((with_reducible (first | apply TD_e2z | apply TD_e3z | apply TL_e | apply TD_e2 | apply TD_e3)); ((with_reducible apply ES_callMp (f := 28) (S1 := [entBlk gm 79 #[.bool fast, .slice (some ⟨gS, 0, none⟩) nn nn, .slice AP (hs.map fq0).length cP, .slice none 0 0, .slice none 0 0]]) (S1' := [entBlk gm 79 #[.bool fast, .slice (some ⟨gS, 0, none⟩) nn nn, .slice AP (hs.map fq0).length cP, .slice none 0 0, .slice none 0 0]]) (v := (.tuple #[]))); exact rfl; ((repeat (first | exact Pull.nil _ | (apply Pull.cons; (repeat (first | with_reducible exact Pick.here _ _ | with_reducible apply Pick.there)))))); (repeat (first | exact AppL.nil _ | apply AppL.cons)); (intro w hw; exact kh _ [] (hw.self 0)); exact rfl); (first | exact rfl | exact ⟨rfl, rfl, rfl⟩); (rintro _ _ ⟨rfl, rfl⟩); (try refine ⟨SUB, ?_⟩)) | ((with_reducible (first | apply TD_e2z | apply TD_e3z | apply TL_e | apply TD_e2 | apply TD_e3)); ((with_reducible apply ES_callMp (f := 29) (S1 := [entBlk gm 79 #[.bool fast, .slice (some ⟨gS, 0, none⟩) nn nn, .slice AP (hs.map fq0).length cP, .slice none 0 0, .slice none 0 0]]) (S1' := [entBlk gm 79 #[.bool fast, .slice (some ⟨gS, 0, none⟩) nn nn, .slice AP (hs.map fq0).length cP, .slice none 0 0, .slice none 0 0]]) (v := (.tuple #[]))); exact rfl; ((repeat (first | exact Pull.nil _ | (apply Pull.cons; (repeat (first | with_reducible exact Pick.here _ _ | with_reducible apply Pick.there)))))); (repeat (first | exact AppL.nil _ | apply AppL.cons)); (intro w hw; exact kb _ [] (hw.self 0)); exact rfl); (first | exact rfl | exact ⟨rfl, rfl, rfl⟩); (rintro _ _ ⟨rfl, rfl⟩); (try refine ⟨SUB, ?_⟩)) | fail)
        all_goals first | (exfalso; omega) | skip
        all_goals
          apply At_rounds (k + 1)
          case hE => (repeat (first | exact SubE.nil _ | refine SubE.cons rfl ?_))
          case hS =>
            intro w' hw
            (try dsimp only)
            rw [hc', hsk]
            exact hw.sel (by (repeat (first | exact Sel.nil _ | (apply Sel.cons; (repeat (first | with_reducible exact Pick.here _ _ | with_reducible apply Pick.there))))))
          case hμ => (try dsimp only); omega
          case hp => exact hkl
    · obtain rfl : k = l.length := by omega
      have hla := (hrun l.length (Nat.le_refl _)).at_
      obtain ⟨hml, hev⟩ := hr l.length (Nat.le_refl _)
      rw [hev, hla]
      repeat' (first | ((with_reducible (first | apply TD_e2z | apply TD_e3z | apply TL_e | apply TD_e2 | apply TD_e3)); exact ESarm_SvK; (first | exact rfl | exact ⟨rfl, rfl, rfl⟩); (first | (rintro _ _ ⟨rfl, rfl⟩) | (rintro _ _ ⟨g, rfl, rfl⟩) | (rintro _ _ ⟨A', c', rfl, rfl⟩)); (try refine ⟨SUB, ?_⟩)) | (refine GG ?_) | (refine GE ?_; (first | (rintro _ _ ⟨rfl, rfl⟩) | (rintro _ _ ⟨g, rfl, rfl⟩) | (rintro _ _ ⟨A', c', rfl, rfl⟩)); (try refine ⟨SUB, ?_⟩)) | ((refine GO2 ?_ ?_) <;> intro h <;> (try (repeat (first | with_reducible (replace h := of_decide_eq_true h) | with_reducible (replace h := of_decide_eq_false h) | with_reducible (replace h := bnt h) | with_reducible (replace h := bnf h) | with_reducible (replace h := Int.not_lt.mp h) | with_reducible (replace h := Int.not_le.mp h) | with_reducible (replace h := band_dec h) | with_reducible (replace h := band_decF h) | with_reducible (replace h := bor_dec h) | with_reducible (replace h := bor_decF h)))) <;> (try (exfalso; first | contradiction | omega))) | (refine GOF ?_ ?_) | (refine DRarm0_SvK ?_) | fail)
      (refine At_ret Try.results6 rfl (fun w' hw => ?_))
      exact ⟨((none, 0), (some ⟨gS, 0, none⟩, nn)), rfl, by
        have h1 := (hw.anyN 0).nilOwn Ev.enc 4 34
        exact h1.sel (by (repeat (first | exact Sel.nil _ | (apply Sel.cons; (repeat (first | with_reducible exact Pick.here _ _ | with_reducible apply Pick.there))))))⟩
end
end Go.Proofs.Ytaonijdhmgcbjaa
