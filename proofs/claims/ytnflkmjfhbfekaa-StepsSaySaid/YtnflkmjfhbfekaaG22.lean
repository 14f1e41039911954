/- Lemmas for the walks (St7, St8, St9). No condition. -/
import Derived.Test.YtnflkmjfhbfekaaG21
import Derived.Test.YtnflkmjfhbfekaaG16
import Derived.Test.YtnflkmjfhbfekaaG20
import Derived.Test.YtnflkmjfhbfekaaG08
set_option linter.unusedSimpArgs false
set_option linter.unusedVariables false
set_option linter.unusedSectionVars false
set_option linter.unnecessarySimpa false
namespace Go.Proofs.Ytnflkmjfhbfekaa
open Go.RowKit
set_option linter.unusedSectionVars false

def plS (algo : Int) (ps : List (List Ak)) (tu : List Int) : List Ev × Int × Int :=
  if algT algo = 0 then ([], 0, 1) else if pplR [algT algo] ps ≠ 0 then ([], 0, pplR [algT algo] ps) else if trnR (ps.length : Int) 300 tu ≠ 0 then ([], 0, trnR (ps.length : Int) 300 tu) else ((runS2 algo ps tu tu.length).evs, ((runS2 algo ps tu tu.length).m.anew : Nat), 0)
def sq0 (h : Hd) : Sq := ⟨⟨h.a, h.n, h.c⟩, false, false, 0, 0, 0, none, none, none, none⟩
theorem PsOk0 {algo : Int} {ps : List (List Ak)} {w : World} {D0 : Option Addr} {hs : List Hd} {g : Nat} (hD : RdRows Ak.enc 3 w D0 hs ps) : PsOk ps w (ss0 ps.length) [g] (hs.map sq0) := by
  obtain ⟨h1, h2, h3⟩ := hD
  refine ⟨by simp [ss0, h2], by simp [ss0], fun i hi hi2 => ?_⟩
  have hi : i < hs.length := by simpa using hi
  have hi3 : i < ps.length := by omega
  obtain ⟨k1, k2, k3, k4⟩ := h3 i hi hi3
  rw [show ps.getD i [] = ps[i] by simp [hi3]]
  simp only [List.getElem_map, ss0, List.getElem_replicate]
  exact ⟨by simpa [sq0] using k1, by simp only [sq0]; omega, by simpa [sq0] using k4, fun _ => rfl, fun e => by simp at e, fun e => by simp at e⟩
set_option maxRecDepth 100000 in
theorem sType_any (algo : Int) (w : World) : Calls Try.prog 11 #[.int .i64 algo] w fun e w' => e = .returned (.int .i64 (algT algo)) ∧ Below w.heap.size w w' := by
  have hc : algo = 1 ∨ algo = 2 ∨ algo = 3 ∨ algo = 4 ∨ (¬ algo = 1 ∧ ¬ algo = 2 ∧ ¬ algo = 3 ∧ ¬ algo = 4 ∧ algT algo = 0) := by
    unfold algT
    by_cases h1 : algo = 1
    · exact .inl h1
    by_cases h2 : algo = 2
    · exact .inr (.inl h2)
    by_cases h3 : algo = 3
    · exact .inr (.inr (.inl h3))
    by_cases h4 : algo = 4
    · exact .inr (.inr (.inr (.inl h4)))
    · exact .inr (.inr (.inr (.inr ⟨h1, h2, h3, h4, by rw [if_neg (by rintro (h | h); exact h1 h; exact h2 h), if_neg h3, if_neg h4]⟩)))
  refine calls_T (S := []) [] Try.func11 rfl Try.ntmps11 (by simp) (Mem.nil _) ?_
  rcases hc with rfl | rfl | rfl | rfl | ⟨h1, h2, h3, h4, h5⟩
  all_goals
    repeat' (first | (refine GO ?_) | (refine GOE ?_; (first | (rintro _ _ ⟨rfl, rfl⟩) | (rintro _ _ ⟨g, rfl, rfl⟩) | (rintro _ _ ⟨A', c', rfl, rfl⟩))) | ((refine GO2 ?_ ?_) <;> intro h <;> (try (repeat (first | with_reducible (replace h := of_decide_eq_true h) | with_reducible (replace h := of_decide_eq_false h) | with_reducible (replace h := bnt h) | with_reducible (replace h := bnf h) | with_reducible (replace h := Int.not_lt.mp h) | with_reducible (replace h := Int.not_le.mp h) | with_reducible (replace h := band_dec h) | with_reducible (replace h := band_decF h) | with_reducible (replace h := bor_dec h) | with_reducible (replace h := bor_decF h)))) <;> (try (exfalso; first | contradiction | omega))) | fail)
    all_goals first
      | (exfalso; omega)
      | ((refine At_ret Try.results11 rfl (fun w' hw => ?_)); exact ⟨rfl, hw.below0 rfl⟩)
      | ((refine At_ret Try.results11 rfl (fun w' hw => ?_)); rw [h5]; exact ⟨rfl, hw.below0 rfl⟩)
section
variable (algo : Int) (D0 B0 : Option Addr) (e0 d0 : Nat) (hs : List Hd) (ps : List (List Ak)) (tu : List Int) (w : World) (hpl : ps.length ≤ 9223372036854775807) (htl : tu.length ≤ 9223372036854775807) (hD : RdRows Ak.enc 3 w D0 hs ps) (hB : RdInt w B0 tu)
include hpl htl hD hB
def PlayPost2 (R : List Ev × Int × Int) (w : World) (e : Ending) (w' : World) : Prop := ∃ x : Option Addr × Nat, e = .returned (.tuple #[.slice x.1 R.1.length x.2, .int .i64 R.2.1, .int .i64 R.2.2]) ∧ Mem ⟨0, [], w⟩ w' [entOwn Ev.enc 4 35 x.1 x.2 R.1]
set_option maxRecDepth 100000 in
set_option maxHeartbeats 8000000 in
theorem stPlay_any : Calls Try.prog 7 #[.int .i64 algo, .slice D0 hs.length e0, .slice B0 tu.length d0] w (PlayPost2 (plS algo ps tu) w) := by
  have hck := fun A w h1 h2 => thCheck_any A D0 1 e0 [algT algo] hs ps w (by simp) hpl h1 h2
  have htn := fun w h => thTurns_any (ps.length : Int) 300 B0 d0 tu w htl h
  have hrows : ∀ {C : Ctx} {w' : World} {S : List Ent}, C.F = [] → C.w0 = w → Mem C w' S → RdRows Ak.enc 3 w' D0 hs ps := fun hF h0 hw =>
    ⟨hw.rd hF (by rw [h0]; exact hD.1), hD.2.1, fun j h1 h2 => ⟨(hD.2.2 j h1 h2).1, (hD.2.2 j h1 h2).2.1, (hD.2.2 j h1 h2).2.2.1, hw.rd hF (by rw [h0]; exact (hD.2.2 j h1 h2).2.2.2)⟩⟩
  have hlen : hs.length = ps.length := hD.2.1
  unfold plS PlayPost2
  refine calls_T (S := []) [] Try.func7 rfl Try.ntmps7 (by simp) (Mem.nil _) ?_
  by_cases ha : algT algo = 0
  · rw [if_pos ha]
    repeat' (first | (refine GO ?_) | (refine GOE ?_; (first | (rintro _ _ ⟨rfl, rfl⟩) | (rintro _ _ ⟨g, rfl, rfl⟩) | (rintro _ _ ⟨A', c', rfl, rfl⟩))) | ((refine GO2 ?_ ?_) <;> intro h <;> (try (repeat (first | with_reducible (replace h := of_decide_eq_true h) | with_reducible (replace h := of_decide_eq_false h) | with_reducible (replace h := bnt h) | with_reducible (replace h := bnf h) | with_reducible (replace h := Int.not_lt.mp h) | with_reducible (replace h := Int.not_le.mp h) | with_reducible (replace h := band_dec h) | with_reducible (replace h := band_decF h) | with_reducible (replace h := bor_dec h) | with_reducible (replace h := bor_decF h)))) <;> (try (exfalso; first | contradiction | omega))) | ((with_reducible (first | apply TD_e2z | apply TD_e3z | apply TL_e | apply TD_e2 | apply TD_e3)); ((with_reducible apply ES_callV (f := 11)); exact rfl; (intro w hw; exact sType_any algo w); exact rfl); (first | exact rfl | exact ⟨rfl, rfl, rfl⟩); (rintro _ _ ⟨rfl, rfl⟩); (try refine ⟨SUB, ?_⟩)) | fail)
    all_goals first
      | (exfalso; omega)
      | ((refine At_ret Try.results7 rfl (fun w' hw => ?_)); exact ⟨(none, 0), rfl, ((hw.sub (List.nil_sublist _)).anyN 0).nilOwn Ev.enc 4 35⟩)
  rw [if_neg ha]
  by_cases h0 : pplR [algT algo] ps = 0
  · rw [if_neg (by simp [h0])]
    rw [h0] at hck
    by_cases h1 : trnR (ps.length : Int) 300 tu = 0
    · rw [if_neg (by simp [h1])]
      rw [h1] at htn
      obtain ⟨hty, h8, hps⟩ := pplR_ok h0
      obtain ⟨ht3, htu⟩ := trnR_ok h1
      have hrun := fun k hk => runS2_ok hps htu k hk
      have hsuc : ∀ k (hk : k < tu.length), runS2 algo ps tu (k + 1) = stepP2 algo ps (runS2 algo ps tu k) tu[k].toNat := fun k hk => by rw [runS2, show tu.getD k 0 = tu[k] by simp [hk]]
      have hr0 : runS2 algo ps tu 0 = ss0 ps.length := rfl
      have hp0 := fun g => PsOk0 (algo := algo) (g := g) hD
      rw [← hr0] at hp0
      obtain ⟨hD1, hD2, hD3⟩ := hD
      rw [← hlen] at htn
      repeat' (first | (refine GO ?_) | (refine GOE ?_; (first | (rintro _ _ ⟨rfl, rfl⟩) | (rintro _ _ ⟨g, rfl, rfl⟩) | (rintro _ _ ⟨A', c', rfl, rfl⟩))) | ((refine GO2 ?_ ?_) <;> intro h <;> (try (repeat (first | with_reducible (replace h := of_decide_eq_true h) | with_reducible (replace h := of_decide_eq_false h) | with_reducible (replace h := bnt h) | with_reducible (replace h := bnf h) | with_reducible (replace h := Int.not_lt.mp h) | with_reducible (replace h := Int.not_le.mp h) | with_reducible (replace h := band_dec h) | with_reducible (replace h := band_decF h) | with_reducible (replace h := bor_dec h) | with_reducible (replace h := bor_decF h)))) <;> (try (exfalso; first | contradiction | omega))) | ((with_reducible (first | apply TD_e2z | apply TD_e3z | apply TL_e | apply TD_e2 | apply TD_e3)); ((with_reducible apply ES_callV (f := 11)); exact rfl; (intro w hw; exact sType_any algo w); exact rfl); (first | exact rfl | exact ⟨rfl, rfl, rfl⟩); (rintro _ _ ⟨rfl, rfl⟩); (try refine ⟨SUB, ?_⟩)) | fail)
      all_goals first | (exfalso; omega) | skip
      ((with_reducible refine TL_mem (S' := [entOwn intEnc 1 3 (some ⟨g, 0, none⟩) 1 [algT algo]]) (fun w hw => Mem.asOwn (enc := intEnc) (M := 1) [algT algo] (Upd.here _ _ _) rfl (fun _ => rfl) (by simp only [List.length_cons, List.length_nil]; decide) hw) ?_))
      repeat' (first | (refine GO ?_) | (refine GOE ?_; (first | (rintro _ _ ⟨rfl, rfl⟩) | (rintro _ _ ⟨g, rfl, rfl⟩) | (rintro _ _ ⟨A', c', rfl, rfl⟩))) | ((refine GO2 ?_ ?_) <;> intro h <;> (try (repeat (first | with_reducible (replace h := of_decide_eq_true h) | with_reducible (replace h := of_decide_eq_false h) | with_reducible (replace h := bnt h) | with_reducible (replace h := bnf h) | with_reducible (replace h := Int.not_lt.mp h) | with_reducible (replace h := Int.not_le.mp h) | with_reducible (replace h := band_dec h) | with_reducible (replace h := band_decF h) | with_reducible (replace h := bor_dec h) | with_reducible (replace h := bor_decF h)))) <;> (try (exfalso; first | contradiction | omega))) | ((with_reducible (first | apply TD_e2z | apply TD_e3z | apply TL_e | apply TD_e2 | apply TD_e3)); ((with_reducible apply ES_callV (f := 33)); exact rfl; (intro w hw; exact hck _ w (hw.ownRd (enc := intEnc) (M := 1) (by first | ((repeat (first | with_reducible exact List.mem_cons_self | with_reducible apply List.mem_cons_of_mem)); done) | (repeat (first | exact List.Mem.head _ | apply List.Mem.tail))) (fun _ => rfl)) (hrows rfl rfl hw)); exact rfl); (first | exact rfl | exact ⟨rfl, rfl, rfl⟩); (rintro _ _ ⟨rfl, rfl⟩); (try refine ⟨SUB, ?_⟩)) | ((with_reducible (first | apply TD_e2z | apply TD_e3z | apply TL_e | apply TD_e2 | apply TD_e3)); ((with_reducible apply ES_callV (f := 34)); exact rfl; (intro w hw; exact htn w (hw.rd rfl hB)); exact rfl); (first | exact rfl | exact ⟨rfl, rfl, rfl⟩); (rintro _ _ ⟨rfl, rfl⟩); (try refine ⟨SUB, ?_⟩)) | fail)
      all_goals first | (exfalso; omega) | skip
      obtain ⟨gm, rfl⟩ : ∃ x, x = g := ⟨_, rfl⟩
      obtain ⟨gn, rfl⟩ : ∃ x, x = g := ⟨_, rfl⟩
      refine T_loop (X := Nat × (Option Addr × Nat)) (fun x => [(48, .int .i64 (x.1 : Nat)), (47, .int .i64 hs.length), (46, .slice D0 hs.length e0), (11, .pointer (some ⟨gm, 0, none⟩)), (2, .slice B0 tu.length d0)])
        (fun x => [entBlk gm 90 #[.int .i64 algo, .int .i64 0, .pointer none, .pointer (some ⟨gn, 0, none⟩), .pointer (some ⟨gn, 0, none⟩), .slice x.2.1 ((hs.take x.1).map sq0).length x.2.2, .slice none 0 0, .int .i64 0], entBlk gn 87 #[.int .i64 0, .pointer none], entOwn Sq.enc 10 93 x.2.1 x.2.2 ((hs.take x.1).map sq0)])
        (fun x => x.1 ≤ hs.length) (fun x => hs.length - x.1) (0, (none, 0)) (by (try dsimp only); omega) (by (repeat (first | exact SubE.nil _ | refine SubE.cons rfl ?_))) (fun w' hw => by
          have h1 := hw.nilOwn Sq.enc 10 93
          show Mem _ w' [entBlk gm 90 #[.int .i64 algo, .int .i64 0, .pointer none, .pointer (some ⟨gn, 0, none⟩), .pointer (some ⟨gn, 0, none⟩), .slice none 0 0, .slice none 0 0, .int .i64 0], _, entOwn Sq.enc 10 93 none 0 []]
          exact h1.sel (by (repeat (first | exact Sel.nil _ | (apply Sel.cons; (repeat (first | with_reducible exact Pick.here _ _ | with_reducible apply Pick.there))))))) ?_
      rintro ⟨k, ⟨AP, cP⟩⟩ hk
      dsimp only at hk ⊢
      by_cases hkl : k < hs.length
      · obtain ⟨bD, oD, rfl, _⟩ := RdE.open hD1 (by omega)
        have hnx : (hs.take (k + 1)).map sq0 = (hs.take k).map sq0 ++ [sq0 hs[k]] := by
          rw [List.take_add_one, List.map_append]; simp [hkl]
        have hll : ((hs.take k).map sq0).length ≤ 8 := by simp; omega
        generalize (hs.take k).map sq0 = O at *
        repeat' (first | (refine GO ?_) | (refine GOE ?_; (first | (rintro _ _ ⟨rfl, rfl⟩) | (rintro _ _ ⟨g, rfl, rfl⟩) | (rintro _ _ ⟨A', c', rfl, rfl⟩))) | ((refine GO2 ?_ ?_) <;> intro h <;> (try (repeat (first | with_reducible (replace h := of_decide_eq_true h) | with_reducible (replace h := of_decide_eq_false h) | with_reducible (replace h := bnt h) | with_reducible (replace h := bnf h) | with_reducible (replace h := Int.not_lt.mp h) | with_reducible (replace h := Int.not_le.mp h) | with_reducible (replace h := band_dec h) | with_reducible (replace h := band_decF h) | with_reducible (replace h := bor_dec h) | with_reducible (replace h := bor_decF h)))) <;> (try (exfalso; first | contradiction | omega))) | ((with_reducible (first | apply TD_e2z | apply TD_e3z | apply TL_e | apply TD_e2 | apply TD_e3)); ((with_reducible apply ES_append1 (enc := Sq.enc) (xx := (sq0 hs[k]))); exact rfl; exact rfl; (repeat (first | with_reducible exact List.mem_cons_self | with_reducible apply List.mem_cons_of_mem)); exact rfl; exact fun _ => rfl; exact fun _ => rfl; (intro A' c'; first | ((repeat (first | with_reducible exact Upd.here _ _ _ | with_reducible apply Upd.there)); done) | (repeat (first | exact Upd.here _ _ _ | apply Upd.there))); (omega); decide; exact rfl); (first | exact rfl | exact ⟨rfl, rfl, rfl⟩); (rintro _ _ ⟨A', c', rfl, rfl⟩); (try refine ⟨SUB, ?_⟩)) | fail)
        apply At_rounds (k + 1, (A', c'))
        case hE => (repeat (first | exact SubE.nil _ | refine SubE.cons rfl ?_))
        case hS =>
          intro w' hw
          dsimp only
          rw [hnx]
          exact hw.sel (by (repeat (first | exact Sel.nil _ | (apply Sel.cons; (repeat (first | with_reducible exact Pick.here _ _ | with_reducible apply Pick.there))))))
        case hμ => (try dsimp only); omega
        case hp => exact hkl
      · obtain rfl : k = hs.length := by omega
        rw [List.take_length]
        repeat' (first | (refine GO ?_) | (refine GOE ?_; (first | (rintro _ _ ⟨rfl, rfl⟩) | (rintro _ _ ⟨g, rfl, rfl⟩) | (rintro _ _ ⟨A', c', rfl, rfl⟩))) | ((refine GO2 ?_ ?_) <;> intro h <;> (try (repeat (first | with_reducible (replace h := of_decide_eq_true h) | with_reducible (replace h := of_decide_eq_false h) | with_reducible (replace h := bnt h) | with_reducible (replace h := bnf h) | with_reducible (replace h := Int.not_lt.mp h) | with_reducible (replace h := Int.not_le.mp h) | with_reducible (replace h := band_dec h) | with_reducible (replace h := band_decF h) | with_reducible (replace h := bor_dec h) | with_reducible (replace h := bor_decF h)))) <;> (try (exfalso; first | contradiction | omega))) | fail)
        by_cases hn : 0 < hs.length
        · refine T_own (enc := Sq.enc) (ls := hs.map sq0) (by first | ((repeat (first | with_reducible exact List.mem_cons_self | with_reducible apply List.mem_cons_of_mem)); done) | (repeat (first | exact List.Mem.head _ | apply List.Mem.tail))) (by simpa using hn) ?_
          rintro gP rfl
          have hp0 := hp0 gn
          refine T_loop (X := Nat × List Nat × List Sq × (Option Addr × Nat)) (fun x => [(66, .int .i64 (x.1 : Nat)), (65, .int .i64 tu.length), (64, .slice B0 tu.length d0), (11, .pointer (some ⟨gm, 0, none⟩))])
            (fun x => machV ⟨gm, gP, cP⟩ algo x.2.1 (runS2 algo ps tu x.1).m x.2.2.1 (runS2 algo ps tu x.1).evs x.2.2.2)
            (fun x => x.1 ≤ tu.length ∧ PsOk ps w (runS2 algo ps tu x.1) x.2.1 x.2.2.1) (fun x => tu.length - x.1) (0, [gn], hs.map sq0, (none, 0)) ⟨by (try dsimp only); omega, hp0⟩ (by (repeat (first | exact SubE.nil _ | refine SubE.cons rfl ?_))) (fun w' hw => by
              have h1 := ((Mem.asOwn (enc := ndEnc) (M := 2) (g := gn) [(⟨0, none⟩ : Nd)] (by first | ((repeat (first | with_reducible exact Upd.here _ _ _ | with_reducible apply Upd.there)); done) | (repeat (first | exact Upd.here _ _ _ | apply Upd.there))) rfl (fun _ => rfl) (by simp only [List.length_cons, List.length_nil]; decide) hw).nilInner ndEnc 2 87)
              have h2 := Mem.absorb (A := some ⟨gn, 0, none⟩) (c := 1) (l := [(⟨0, none⟩ : Nd)]) (by repeat (first | exact Pick.here _ _ | apply Pick.there)) (by first | ((repeat (first | with_reducible exact Upd.here _ _ _ | with_reducible apply Upd.there)); done) | (repeat (first | exact Upd.here _ _ _ | apply Upd.there))) h1
              have h3 := h2.nilOwn Ev.enc 4 35
              dsimp only [machV, machB, entNd]
              rw [show (runS2 algo ps tu 0).evs = [] from rfl]
              show Mem _ w' [entBlk gm 90 #[.int .i64 algo, .int .i64 0, .pointer none, .pointer (some ⟨gn, 0, none⟩), .pointer (some ⟨gn, 0, none⟩), .slice (some ⟨gP, 0, none⟩) (hs.map sq0).length cP, .slice none 0 0, .int .i64 0], entInner ndEnc 2 87 ([] ++ [⟨some ⟨gn, 0, none⟩, [(⟨0, none⟩ : Nd)].length, 1⟩]) ([] ++ [[(⟨0, none⟩ : Nd)]]), _, _]
              exact h3.sel (by (repeat (first | exact Sel.nil _ | (apply Sel.cons; (repeat (first | with_reducible exact Pick.here _ _ | with_reducible apply Pick.there))))))) ?_
          rintro ⟨k, G, pr, x⟩ ⟨hk, hplk⟩
          dsimp only at hk hplk
          have hokk := hrun k hk
          by_cases hkl : k < tu.length
          · obtain ⟨bB, oB, rfl, _⟩ := RdE.open hB (by omega)
            have hz := htu k hkl
            have hzz : ((tu[k].toNat : Nat) : Int) = tu[k] := by omega
            have hsk := hsuc k hkl
            have hturn := fun (C : Ctx) (R' : List Ent) (W : World) (hw : Mem C W (machV ⟨gm, gP, cP⟩ algo G (runS2 algo ps tu k).m pr (runS2 algo ps tu k).evs x ++ R')) (h1 : C.F = []) (h2 : C.w0 = w) =>
              (show Calls Try.prog 35 #[.pointer (some ⟨gm, 0, none⟩), .int .i64 tu[k]] W (STPost ⟨gm, gP, cP⟩ algo ps w (runS2 algo ps tu k) (runS2 algo ps tu (k + 1)) G pr x W) by
                have h3 := sturnT_any ⟨gm, gP, cP⟩ algo ps (runS2 algo ps tu k) k G pr x tu[k].toNat hw h1 (by rw [h2]; exact hplk) hokk (by omega) hps (by omega)
                rw [hzz, h2, ← hsk] at h3
                exact h3)
            clear hplk hokk hrun hsuc hsk hp0
            unfold STPost at hturn
            obtain ⟨s', hs'⟩ : ∃ s', runS2 algo ps tu (k + 1) = s' := ⟨_, rfl⟩
            rw [hs'] at hturn
            dsimp only
            repeat' (first | (refine GO ?_) | (refine GOE ?_; (first | (rintro _ _ ⟨rfl, rfl⟩) | (rintro _ _ ⟨g, rfl, rfl⟩) | (rintro _ _ ⟨A', c', rfl, rfl⟩))) | ((refine GO2 ?_ ?_) <;> intro h <;> (try (repeat (first | with_reducible (replace h := of_decide_eq_true h) | with_reducible (replace h := of_decide_eq_false h) | with_reducible (replace h := bnt h) | with_reducible (replace h := bnf h) | with_reducible (replace h := Int.not_lt.mp h) | with_reducible (replace h := Int.not_le.mp h) | with_reducible (replace h := band_dec h) | with_reducible (replace h := band_decF h) | with_reducible (replace h := bor_dec h) | with_reducible (replace h := bor_decF h)))) <;> (try (exfalso; first | contradiction | omega))) | fail)
            refine TL_e (ES_callX (f := 35) (X := {y : List Nat × List Sq × (Option Addr × Nat) // PsOk ps w s' y.1 y.2.1}) (S1 := machV ⟨gm, gP, cP⟩ algo G (runS2 algo ps tu k).m pr (runS2 algo ps tu k).evs x)
              (fun _ => .tuple #[]) (fun y => machV ⟨gm, gP, cP⟩ algo y.1.1 s'.m y.1.2.1 s'.evs y.1.2.2) rfl (by dsimp only [machV]; (repeat (first | exact Pull.nil _ | (apply Pull.cons; (repeat (first | with_reducible exact Pick.here _ _ | with_reducible apply Pick.there)))))) (fun y => by dsimp only [machV]; repeat (first | exact AppL.nil _ | apply AppL.cons))
              (fun w' hw => hturn _ _ w' hw rfl rfl) rfl) rfl ?_
            rintro _ _ ⟨⟨⟨G2, pr2, x2⟩, hpl2⟩, rfl, rfl⟩
            dsimp only at hpl2 ⊢
            repeat' (first | (refine GO ?_) | (refine GOE ?_; (first | (rintro _ _ ⟨rfl, rfl⟩) | (rintro _ _ ⟨g, rfl, rfl⟩) | (rintro _ _ ⟨A', c', rfl, rfl⟩))) | ((refine GO2 ?_ ?_) <;> intro h <;> (try (repeat (first | with_reducible (replace h := of_decide_eq_true h) | with_reducible (replace h := of_decide_eq_false h) | with_reducible (replace h := bnt h) | with_reducible (replace h := bnf h) | with_reducible (replace h := Int.not_lt.mp h) | with_reducible (replace h := Int.not_le.mp h) | with_reducible (replace h := band_dec h) | with_reducible (replace h := band_decF h) | with_reducible (replace h := bor_dec h) | with_reducible (replace h := bor_decF h)))) <;> (try (exfalso; first | contradiction | omega))) | fail)
            apply At_rounds (k + 1, G2, pr2, x2)
            case hE => (repeat (first | exact SubE.nil _ | refine SubE.cons rfl ?_))
            case hS =>
              intro w' hw
              dsimp only [machV]
              rw [hs']
              exact hw.sel (by (repeat (first | exact Sel.nil _ | (apply Sel.cons; (repeat (first | with_reducible exact Pick.here _ _ | with_reducible apply Pick.there))))))
            case hμ => (try dsimp only); omega
            case hp => exact ⟨hkl, by dsimp only; rw [hs']; exact hpl2⟩
          · obtain rfl : k = tu.length := by omega
            dsimp only [machV, machB]
            repeat' (first | (refine GG ?_) | (refine GE ?_; (first | (rintro _ _ ⟨rfl, rfl⟩) | (rintro _ _ ⟨g, rfl, rfl⟩) | (rintro _ _ ⟨A', c', rfl, rfl⟩)); (try refine ⟨SUB, ?_⟩)) | ((refine GO2 ?_ ?_) <;> intro h <;> (try (repeat (first | with_reducible (replace h := of_decide_eq_true h) | with_reducible (replace h := of_decide_eq_false h) | with_reducible (replace h := bnt h) | with_reducible (replace h := bnf h) | with_reducible (replace h := Int.not_lt.mp h) | with_reducible (replace h := Int.not_le.mp h) | with_reducible (replace h := band_dec h) | with_reducible (replace h := band_decF h) | with_reducible (replace h := bor_dec h) | with_reducible (replace h := bor_decF h)))) <;> (try (exfalso; first | contradiction | omega))) | (refine GOF ?_ ?_) | ((with_reducible apply T_draw (id := 21) 1000 (OT.seq [(0, 0), (0, 1), (0, 2), (0, 4), (0, 5), (0, 6), (1, 3), (0, 8), (1, 7), (0, 9), (0, 10)] .nil)); kernel_rfl; exact rfl; kernel_rfl; (repeat (first | with_reducible exact Blind.body | with_reducible apply Blind.seq | with_reducible apply Blind.block))) | fail)
            (refine At_ret Try.results7 rfl (fun w' hw => ?_))
            exact ⟨x, rfl, (hw.anyN 0).sel (by (repeat (first | exact Sel.nil _ | (apply Sel.cons; (repeat (first | with_reducible exact Pick.here _ _ | with_reducible apply Pick.there))))))⟩
        · have ht0 : tu.length = 0 := by
            by_cases e : tu.length = 0
            · exact e
            · exfalso
              have := htu 0 (by omega)
              omega
          have e1 : runS2 algo ps tu tu.length = ss0 ps.length := by rw [ht0]; rfl
          rw [e1]
          refine T_loop (X := Unit) (fun _ => [(66, .int .i64 0), (65, .int .i64 tu.length), (64, .slice B0 tu.length d0), (11, .pointer (some ⟨gm, 0, none⟩))]) (fun _ => [entBlk gm 90 #[.int .i64 algo, .int .i64 0, .pointer none, .pointer (some ⟨gn, 0, none⟩), .pointer (some ⟨gn, 0, none⟩), .slice AP (hs.map sq0).length cP, .slice none 0 0, .int .i64 0]]) (fun _ => True) (fun _ => 0) () trivial (by (repeat (first | exact SubE.nil _ | refine SubE.cons rfl ?_))) (fun w' hw => hw.sel (by (repeat (first | exact Sel.nil _ | (apply Sel.cons; (repeat (first | with_reducible exact Pick.here _ _ | with_reducible apply Pick.there))))))) ?_
          rintro ⟨⟩ -
          repeat' (first | (refine GG ?_) | (refine GE ?_; (first | (rintro _ _ ⟨rfl, rfl⟩) | (rintro _ _ ⟨g, rfl, rfl⟩) | (rintro _ _ ⟨A', c', rfl, rfl⟩)); (try refine ⟨SUB, ?_⟩)) | ((refine GO2 ?_ ?_) <;> intro h <;> (try (repeat (first | with_reducible (replace h := of_decide_eq_true h) | with_reducible (replace h := of_decide_eq_false h) | with_reducible (replace h := bnt h) | with_reducible (replace h := bnf h) | with_reducible (replace h := Int.not_lt.mp h) | with_reducible (replace h := Int.not_le.mp h) | with_reducible (replace h := band_dec h) | with_reducible (replace h := band_decF h) | with_reducible (replace h := bor_dec h) | with_reducible (replace h := bor_decF h)))) <;> (try (exfalso; first | contradiction | omega))) | (refine GOF ?_ ?_) | ((with_reducible apply T_draw (id := 21) 1000 (OT.seq [(0, 0), (0, 1), (0, 2), (0, 4), (0, 5), (0, 6), (1, 3), (0, 8), (1, 7), (0, 9), (0, 10)] .nil)); kernel_rfl; exact rfl; kernel_rfl; (repeat (first | with_reducible exact Blind.body | with_reducible apply Blind.seq | with_reducible apply Blind.block))) | fail)
          all_goals first
            | (exfalso; omega)
            | ((refine At_ret Try.results7 rfl (fun w' hw => ?_)); exact ⟨(none, 0), rfl, ((hw.sub (List.nil_sublist _)).anyN 0).nilOwn Ev.enc 4 35⟩)
    · rw [if_pos (by simp [h1])]
      rw [← hlen] at htn h1 ⊢
      generalize trnR (hs.length : Int) 300 tu = Z at *
      repeat' (first | (refine GO ?_) | (refine GOE ?_; (first | (rintro _ _ ⟨rfl, rfl⟩) | (rintro _ _ ⟨g, rfl, rfl⟩) | (rintro _ _ ⟨A', c', rfl, rfl⟩))) | ((refine GO2 ?_ ?_) <;> intro h <;> (try (repeat (first | with_reducible (replace h := of_decide_eq_true h) | with_reducible (replace h := of_decide_eq_false h) | with_reducible (replace h := bnt h) | with_reducible (replace h := bnf h) | with_reducible (replace h := Int.not_lt.mp h) | with_reducible (replace h := Int.not_le.mp h) | with_reducible (replace h := band_dec h) | with_reducible (replace h := band_decF h) | with_reducible (replace h := bor_dec h) | with_reducible (replace h := bor_decF h)))) <;> (try (exfalso; first | contradiction | omega))) | ((with_reducible (first | apply TD_e2z | apply TD_e3z | apply TL_e | apply TD_e2 | apply TD_e3)); ((with_reducible apply ES_callV (f := 11)); exact rfl; (intro w hw; exact sType_any algo w); exact rfl); (first | exact rfl | exact ⟨rfl, rfl, rfl⟩); (rintro _ _ ⟨rfl, rfl⟩); (try refine ⟨SUB, ?_⟩)) | fail)
      all_goals first | (exfalso; omega) | skip
      ((with_reducible refine TL_mem (S' := [entOwn intEnc 1 3 (some ⟨g, 0, none⟩) 1 [algT algo]]) (fun w hw => Mem.asOwn (enc := intEnc) (M := 1) [algT algo] (Upd.here _ _ _) rfl (fun _ => rfl) (by simp only [List.length_cons, List.length_nil]; decide) hw) ?_))
      repeat' (first | (refine GO ?_) | (refine GOE ?_; (first | (rintro _ _ ⟨rfl, rfl⟩) | (rintro _ _ ⟨g, rfl, rfl⟩) | (rintro _ _ ⟨A', c', rfl, rfl⟩))) | ((refine GO2 ?_ ?_) <;> intro h <;> (try (repeat (first | with_reducible (replace h := of_decide_eq_true h) | with_reducible (replace h := of_decide_eq_false h) | with_reducible (replace h := bnt h) | with_reducible (replace h := bnf h) | with_reducible (replace h := Int.not_lt.mp h) | with_reducible (replace h := Int.not_le.mp h) | with_reducible (replace h := band_dec h) | with_reducible (replace h := band_decF h) | with_reducible (replace h := bor_dec h) | with_reducible (replace h := bor_decF h)))) <;> (try (exfalso; first | contradiction | omega))) | ((with_reducible (first | apply TD_e2z | apply TD_e3z | apply TL_e | apply TD_e2 | apply TD_e3)); ((with_reducible apply ES_callV (f := 33)); exact rfl; (intro w hw; exact hck _ w (hw.ownRd (enc := intEnc) (M := 1) (by first | ((repeat (first | with_reducible exact List.mem_cons_self | with_reducible apply List.mem_cons_of_mem)); done) | (repeat (first | exact List.Mem.head _ | apply List.Mem.tail))) (fun _ => rfl)) (hrows rfl rfl hw)); exact rfl); (first | exact rfl | exact ⟨rfl, rfl, rfl⟩); (rintro _ _ ⟨rfl, rfl⟩); (try refine ⟨SUB, ?_⟩)) | ((with_reducible (first | apply TD_e2z | apply TD_e3z | apply TL_e | apply TD_e2 | apply TD_e3)); ((with_reducible apply ES_callV (f := 34)); exact rfl; (intro w hw; exact htn w (hw.rd rfl hB)); exact rfl); (first | exact rfl | exact ⟨rfl, rfl, rfl⟩); (rintro _ _ ⟨rfl, rfl⟩); (try refine ⟨SUB, ?_⟩)) | fail)
      all_goals first
        | (exfalso; omega)
        | ((refine At_ret Try.results7 rfl (fun w' hw => ?_)); exact ⟨(none, 0), rfl, ((hw.sub (List.nil_sublist _)).anyN 0).nilOwn Ev.enc 4 35⟩)
  · rw [if_pos h0]
    generalize pplR [algT algo] ps = Z at *
    repeat' (first | (refine GO ?_) | (refine GOE ?_; (first | (rintro _ _ ⟨rfl, rfl⟩) | (rintro _ _ ⟨g, rfl, rfl⟩) | (rintro _ _ ⟨A', c', rfl, rfl⟩))) | ((refine GO2 ?_ ?_) <;> intro h <;> (try (repeat (first | with_reducible (replace h := of_decide_eq_true h) | with_reducible (replace h := of_decide_eq_false h) | with_reducible (replace h := bnt h) | with_reducible (replace h := bnf h) | with_reducible (replace h := Int.not_lt.mp h) | with_reducible (replace h := Int.not_le.mp h) | with_reducible (replace h := band_dec h) | with_reducible (replace h := band_decF h) | with_reducible (replace h := bor_dec h) | with_reducible (replace h := bor_decF h)))) <;> (try (exfalso; first | contradiction | omega))) | ((with_reducible (first | apply TD_e2z | apply TD_e3z | apply TL_e | apply TD_e2 | apply TD_e3)); ((with_reducible apply ES_callV (f := 11)); exact rfl; (intro w hw; exact sType_any algo w); exact rfl); (first | exact rfl | exact ⟨rfl, rfl, rfl⟩); (rintro _ _ ⟨rfl, rfl⟩); (try refine ⟨SUB, ?_⟩)) | fail)
    all_goals first | (exfalso; omega) | skip
    ((with_reducible refine TL_mem (S' := [entOwn intEnc 1 3 (some ⟨g, 0, none⟩) 1 [algT algo]]) (fun w hw => Mem.asOwn (enc := intEnc) (M := 1) [algT algo] (Upd.here _ _ _) rfl (fun _ => rfl) (by simp only [List.length_cons, List.length_nil]; decide) hw) ?_))
    repeat' (first | (refine GO ?_) | (refine GOE ?_; (first | (rintro _ _ ⟨rfl, rfl⟩) | (rintro _ _ ⟨g, rfl, rfl⟩) | (rintro _ _ ⟨A', c', rfl, rfl⟩))) | ((refine GO2 ?_ ?_) <;> intro h <;> (try (repeat (first | with_reducible (replace h := of_decide_eq_true h) | with_reducible (replace h := of_decide_eq_false h) | with_reducible (replace h := bnt h) | with_reducible (replace h := bnf h) | with_reducible (replace h := Int.not_lt.mp h) | with_reducible (replace h := Int.not_le.mp h) | with_reducible (replace h := band_dec h) | with_reducible (replace h := band_decF h) | with_reducible (replace h := bor_dec h) | with_reducible (replace h := bor_decF h)))) <;> (try (exfalso; first | contradiction | omega))) | ((with_reducible (first | apply TD_e2z | apply TD_e3z | apply TL_e | apply TD_e2 | apply TD_e3)); ((with_reducible apply ES_callV (f := 33)); exact rfl; (intro w hw; exact hck _ w (hw.ownRd (enc := intEnc) (M := 1) (by first | ((repeat (first | with_reducible exact List.mem_cons_self | with_reducible apply List.mem_cons_of_mem)); done) | (repeat (first | exact List.Mem.head _ | apply List.Mem.tail))) (fun _ => rfl)) (hrows rfl rfl hw)); exact rfl); (first | exact rfl | exact ⟨rfl, rfl, rfl⟩); (rintro _ _ ⟨rfl, rfl⟩); (try refine ⟨SUB, ?_⟩)) | fail)
    all_goals first
      | (exfalso; omega)
      | ((refine At_ret Try.results7 rfl (fun w' hw => ?_)); exact ⟨(none, 0), rfl, ((hw.sub (List.nil_sublist _)).anyN 0).nilOwn Ev.enc 4 35⟩)
end
end Go.Proofs.Ytnflkmjfhbfekaa

namespace Go.Proofs.Ytnflkmjfhbfekaa
open Go.RowKit
set_option linter.unusedSectionVars false

structure Hz where
  step : Int
  x : Int
  y : Int
  z : Int
  own : Int
  deriving Inhabited
def Hz.enc (h : Hz) : List Value := [.int .i64 h.step, .int .i64 h.x, .int .i64 h.y, .int .i64 h.z, .int .i64 h.own]
theorem Hz.enc_mk (a b c d e : Int) : Hz.enc ⟨a, b, c, d, e⟩ = [.int .i64 a, .int .i64 b, .int .i64 c, .int .i64 d, .int .i64 e] := rfl
def hz (h : Hn) : Hz := ⟨(h.step : Nat), (h.x : Nat), (h.y : Nat), (h.z : Nat), (h.own : Nat)⟩
/-- where the memory lies -/
structure MLc where
  g : Nat
  gv : Nat
  cv : Nat
  gn : Nat
  cn : Nat
  gh : Nat
  ch : Nat
@[reducible] def memB (a : MLc) (m : Mm) : Ent :=
  entBlk a.g 98 #[.slice (some ⟨a.gv, 0, none⟩) m.val.length a.cv, .slice (some ⟨a.gn, 0, none⟩) m.nxt.length a.cn, .int .i64 (m.n : Nat), .int .i64 (m.top : Nat), .int .i64 (m.head : Nat), .int .i64 (m.tail : Nat), .int .i64 (m.anew : Nat)]
def memS (a : MLc) (m : Mm) (L : List Hz) : List Ent :=
  [memB a m, entOwn intEnc 1 3 (some ⟨a.gv, 0, none⟩) a.cv m.val, entOwn natEnc 1 3 (some ⟨a.gn, 0, none⟩) a.cn m.nxt, entOwn Hz.enc 5 101 (some ⟨a.gh, 0, none⟩) a.ch L]
section
variable (a : MLc) (m : Mm) (L : List Hz) (k n0 b4 b7 : Nat) (w : World) (hk : k < L.length) (st x y z ow : Int) (hpk : L[k] = ⟨st, x, y, z, ow⟩) (han : m.anew ≤ 1000)
  (hM : Mem ⟨n0, blks [entBlk b4 157 #[.pointer (some ⟨a.g, 0, none⟩)], entBlk b7 104 #[.pointer (some ⟨a.gh, k * 5, none⟩)], memB a m, entOwn Hz.enc 5 101 (some ⟨a.gh, 0, none⟩) a.ch L], w⟩ w [entBlk b4 157 #[.pointer (some ⟨a.g, 0, none⟩)], entBlk b7 104 #[.pointer (some ⟨a.gh, k * 5, none⟩)], memB a m, entOwn Hz.enc 5 101 (some ⟨a.gh, 0, none⟩) a.ch L])
include hk hpk han hM
set_option maxRecDepth 100000 in
theorem anew_any : Calls Try.prog 72 #[.pointer (some ⟨b4, 0, none⟩), .pointer (some ⟨b7, 0, none⟩)] w fun e w' => e = .returned (.tuple #[.int .i64 0, .bool false]) ∧ Mem ⟨0, blks [entBlk b4 157 #[.pointer (some ⟨a.g, 0, none⟩)], entBlk b7 104 #[.pointer (some ⟨a.gh, k * 5, none⟩)], memB a m, entOwn Hz.enc 5 101 (some ⟨a.gh, 0, none⟩) a.ch L], w⟩ w'
    [entBlk b4 157 #[.pointer (some ⟨a.g, 0, none⟩)], entBlk b7 104 #[.pointer (some ⟨a.gh, k * 5, none⟩)], memB a { m with anew := m.anew + 1 }, entOwn Hz.enc 5 101 (some ⟨a.gh, 0, none⟩) a.ch (L.set k ⟨0, x, y, z, ow⟩)] := by
  generalize blks [entBlk b4 157 #[.pointer (some ⟨a.g, 0, none⟩)], entBlk b7 104 #[.pointer (some ⟨a.gh, k * 5, none⟩)], memB a m, entOwn Hz.enc 5 101 (some ⟨a.gh, 0, none⟩) a.ch L] = F at hM ⊢
  have hpk1 : L[k]? = some ⟨st, x, y, z, ow⟩ := by rw [List.getElem?_eq_getElem hk, hpk]
  refine calls_T F Try.func72 rfl Try.ntmps72 (by simp) (hM.anyN _) ?_
  dsimp only [memB]
  repeat' (first | ((first | with_reducible (first | apply TL_q | apply TD_q0 | apply TD_q1 | apply TD_q2 | apply TD_q3) | ((with_reducible (first | apply TD_q0y | apply TD_q1y)); exact rfl; exact rfl; (with_reducible exact rfl))); (first | ((with_reducible apply QS_load); exact rfl; exact Lds.own (enc := Hz.enc) (by first | ((repeat (first | with_reducible exact List.mem_cons_self | with_reducible apply List.mem_cons_of_mem)); done) | (repeat (first | exact List.Mem.head _ | apply List.Mem.tail))) (by intro x; rfl) hk (by rw [hpk, Hz.enc_mk]; rfl)) | ((with_reducible apply QS_load); exact rfl; exact Lds.own0 (enc := Hz.enc) (by first | ((repeat (first | with_reducible exact List.mem_cons_self | with_reducible apply List.mem_cons_of_mem)); done) | (repeat (first | exact List.Mem.head _ | apply List.Mem.tail))) (by intro x; rfl) hk (by rw [hpk, Hz.enc_mk]; rfl)) | ((with_reducible apply QS_load); exact rfl; exact Lds.qAt (by first | ((repeat (first | with_reducible exact List.mem_cons_self | with_reducible apply List.mem_cons_of_mem)); done) | (repeat (first | exact List.Mem.head _ | apply List.Mem.tail))) (by intro x; rfl) (by first | exact hk | (simp only [List.length_set]; exact hk)) (by rw [Hz.enc_mk]; rfl)) | ((with_reducible apply QS_load); exact rfl; exact Lds.qAt0 (by first | ((repeat (first | with_reducible exact List.mem_cons_self | with_reducible apply List.mem_cons_of_mem)); done) | (repeat (first | exact List.Mem.head _ | apply List.Mem.tail))) (by intro x; rfl) (by first | exact hk | (simp only [List.length_set]; exact hk)) (by rw [Hz.enc_mk]; rfl)) | ((with_reducible apply QS_load); exact rfl; (apply Lds.old; assumption; simp; assumption)) | exact QS.auto); exact rfl) | ((with_reducible (first | apply TD_e2z | apply TD_e3z | apply TL_e | apply TD_e2 | apply TD_e3)); (first | ((with_reducible apply ES_storeOwn (enc := Hz.enc)); exact rfl; exact rfl; (first | ((repeat (first | with_reducible exact Upd.here _ _ _ | with_reducible apply Upd.there)); done) | (repeat (first | exact Upd.here _ _ _ | apply Upd.there))); (intro x; rfl); ((first | exact List.getElem?_set_self (by first | exact hk | (simp only [List.length_set]; exact hk)) | exact hpk1)); decide; exact Hz.enc_mk _ _ _ _ _; exact rfl) | ((with_reducible apply ES_storeOwn0 (enc := Hz.enc)); exact rfl; exact rfl; (first | ((repeat (first | with_reducible exact Upd.here _ _ _ | with_reducible apply Upd.there)); done) | (repeat (first | exact Upd.here _ _ _ | apply Upd.there))); (intro x; rfl); ((first | exact List.getElem?_set_self (by first | exact hk | (simp only [List.length_set]; exact hk)) | exact hpk1)); decide; exact Hz.enc_mk _ _ _ _ _; exact rfl) | exact ES.auto); (first | exact rfl | exact ⟨rfl, rfl, rfl⟩); (first | (rintro _ _ ⟨rfl, rfl⟩) | (rintro _ _ ⟨g, rfl, rfl⟩) | (rintro _ _ ⟨A', c', rfl, rfl⟩)); (try refine ⟨SUB, ?_⟩)) | (refine GO ?_) | (refine GOE ?_; (first | (rintro _ _ ⟨rfl, rfl⟩) | (rintro _ _ ⟨g, rfl, rfl⟩) | (rintro _ _ ⟨A', c', rfl, rfl⟩))) | ((refine GO2 ?_ ?_) <;> intro h <;> (try (repeat (first | with_reducible (replace h := of_decide_eq_true h) | with_reducible (replace h := of_decide_eq_false h) | with_reducible (replace h := bnt h) | with_reducible (replace h := bnf h) | with_reducible (replace h := Int.not_lt.mp h) | with_reducible (replace h := Int.not_le.mp h) | with_reducible (replace h := band_dec h) | with_reducible (replace h := band_decF h) | with_reducible (replace h := bor_dec h) | with_reducible (replace h := bor_decF h)))) <;> (try (exfalso; first | contradiction | omega))) | fail)
  (refine At_ret Try.results72 rfl (fun w' hw => ?_))
  exact ⟨rfl, hw.anyN 0⟩
end
end Go.Proofs.Ytnflkmjfhbfekaa

namespace Go.Proofs.Ytnflkmjfhbfekaa
open Go.RowKit
set_option linter.unusedSectionVars false

theorem T_cutLast {P : Program} {C : Ctx} {Q : Exit → Act → World → Prop} {E : Slots} {S : List Ent} {X : Type} (id : Nat) {ops : Array Oper} {dr : Bool} {y : Code} (I : X → Slots) (J : X → List Ent) (pre : X → Prop) (hx : T P C (.region id ops dr) (Exit.then (Cut C I J pre) Q) E S) (hy : ∀ z, pre z → T P C y Q (I z) (J z)) : T P C (.region id ops dr) (Exit.then (fun a w => y.wp P Q a w) Q) E S :=
  ⟨fun a w ha hw => Code.wp_mono (fun e a' w' h => by
    cases e with
    | normal =>
      obtain ⟨z, hp, he, hm⟩ := h
      exact (hy z hp).run a' w' he hm
    | _ => exact h) (hx.run a w ha hw)⟩
/-- what a region does not need is dropped ahead of it -/
theorem T_trim6 {P : Program} {C : Ctx} {Q : Exit → Act → World → Prop} {S : List Ent} {id : Nat} {ops : Array Oper} {dr : Bool} {x : Code} {a0 a1 a2 a3 a4 a5 a6 : Nat × Value} {R : Slots} (E' : Slots) (hE : SubE (a0 :: a1 :: a2 :: a3 :: a4 :: a5 :: a6 :: R) E') (h : T P C (.seq (.region id ops dr) x) Q E' S) : T P C (.seq (.region id ops dr) x) Q (a0 :: a1 :: a2 :: a3 :: a4 :: a5 :: a6 :: R) S :=
  T_weak E' S hE (List.Sublist.refl _) h
section
variable {C : Ctx} {w : World} {a b c d e f : Ent}
theorem Mem.last4 (h : Mem C w [a, b, c, d, e, f]) : Mem C w [c, d, e, f] := h.sel (by (repeat (first | exact Sel.nil _ | (apply Sel.cons; (repeat (first | with_reducible exact Pick.here _ _ | with_reducible apply Pick.there))))))
theorem Mem.last4b (h : Mem C w [a, b, c, f, d, e]) : Mem C w [c, d, e, f] := h.sel (by (repeat (first | exact Sel.nil _ | (apply Sel.cons; (repeat (first | with_reducible exact Pick.here _ _ | with_reducible apply Pick.there))))))
end
section
variable (a : MLc) (algo : Int) (m : Mm) (L : List Hz) (k n0 : Nat) (h : Hn) (w : World) (hk : k < L.length) (hpk : L[k] = hz h) (hm : MmOk m) (han : m.anew ≤ 1000) (hn : m.n ≤ 1000) (hM : Mem ⟨n0, blks (memS a m L), w⟩ w (memS a m L))
include hk hpk hm han hn hM
def SdPost (a : MLc) (m : Mm) (L : List Hz) (k : Nat) (r : SRes) (w : World) (e : Ending) (w' : World) : Prop := e = .returned (.tuple #[.int .i64 (r.2.2.getD 0), .bool r.2.2.isSome]) ∧ Mem ⟨0, blks (memS a m L), w⟩ w' (memS a r.1 (L.set k (hz r.2.1)))
end
end Go.Proofs.Ytnflkmjfhbfekaa
