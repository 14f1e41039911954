/- Lemmas for the walks (SvT, Siq, Evq). No condition. -/
import Derived.Test.YtaonijdhmgcbjaaG20
import Derived.Test.YtaonijdhmgcbjaaG08
import Derived.Test.YtaonijdhmgcbjaaG05
import Derived.Test.YtaonijdhmgcbjaaG04
import Derived.Test.YtaonijdhmgcbjaaRows
import Derived.Test.YtaonijdhmgcbjaaG01
import Derived.ChangeKeysEq
import Derived.Test.YtaonijdhmgcbjaaG06
import Derived.Laws.BitsAllLaws
set_option linter.unusedSimpArgs false
set_option linter.unusedVariables false
set_option linter.unusedSectionVars false
set_option linter.unnecessarySimpa false
namespace Go.Proofs.Ytaonijdhmgcbjaa
open Go.RowKit
set_option linter.unusedSectionVars false

theorem T_cutB {P : Program} {C : Ctx} {Q : Exit → Act → World → Prop} {E : Slots} {S : List Ent} {X : Type} (id : Nat) {x y : Code} (I : X → Slots) (J : X → List Ent) (pre : X → Prop) (hx : T P C x (Exit.inBlock id (Exit.then (Cut C I J pre) Q)) E S) (hy : ∀ z, pre z → T P C y Q (I z) (J z)) : T P C (.seq (.block id x) y) Q E S :=
  T_cut I J pre (T_block hx) hy
def KPost (R : Sv) (w : World) (e : Ending) (w' : World) : Prop := ∃ x : (Option Addr × Nat) × (Option Addr × Nat), e = .returned (.tuple #[.slice x.1.1 R.evs.length x.1.2, .slice x.2.1 R.at_.length x.2.2]) ∧ Mem ⟨0, [], w⟩ w' [entOwn Ev.enc 4 34 x.1.1 x.1.2 R.evs, entOwn Si.enc 4 37 x.2.1 x.2.2 R.at_]
section
variable (n : Nat) (fast : Bool) (D0 B0 : Option Addr) (e0 d0 : Nat) (hs : List Hd) (ps : List (List Ak)) (l : List Ac) (w : World) (h8 : ps.length ≤ 8) (hll : l.length ≤ 1000) (hn5 : n ≤ 5) (hD : RdRows Ak.enc 3 w D0 hs ps) (hB : RdE Ac.enc 2 w B0 l) (hact : ∀ k, k < l.length → actR n ps.length (l.getD k default))
include h8 hll hn5 hD hB hact
set_option maxRecDepth 100000 in
set_option maxHeartbeats 16000000 in
theorem kept_any : Calls Try.prog 8 #[.int .i64 (n : Nat), .bool fast, .slice D0 hs.length e0, .slice B0 l.length d0] w (KPost (runV n fast ps l l.length) w) := by
  have hlen : hs.length = ps.length := hD.2.1
  have hrun := fun k hk => runV_ok (n := n) (fast := fast) h8 hact k hk
  have hr0 : runV n fast ps l 0 = sv0 n ps.length := rfl
  unfold KPost
  refine calls_T (S := []) [] Try.func8 rfl Try.ntmps8 (by simp) (Mem.nil _) ?_
  have hl8 : hs.length ≤ 8 := by omega
  repeat' (first | ((with_reducible (first | apply TD_e2z | apply TD_e3z | apply TL_e | apply TD_e2 | apply TD_e3)); (first | ((with_reducible apply ES_makeSlice (enc := Si.enc) (z0 := ⟨0, 0, 0, false⟩)); exact rfl; exact rfl; exact rfl; (first | omega | (simp; omega)); decide; exact rfl) | ((with_reducible apply ES_makeSlice (enc := natEnc) (z0 := 0)); exact rfl; exact rfl; exact rfl; (first | omega | (simp; omega)); decide; exact rfl) | exact ES.auto); (first | exact rfl | exact ⟨rfl, rfl, rfl⟩); (first | (rintro _ _ ⟨rfl, rfl⟩) | (rintro _ _ ⟨g, rfl, rfl⟩) | (rintro _ _ ⟨A', c', rfl, rfl⟩)); (try refine ⟨SUB, ?_⟩)) | (refine GO ?_) | (refine GOE ?_; (first | (rintro _ _ ⟨rfl, rfl⟩) | (rintro _ _ ⟨g, rfl, rfl⟩) | (rintro _ _ ⟨A', c', rfl, rfl⟩))) | ((refine GO2 ?_ ?_) <;> intro h <;> (try (repeat (first | with_reducible (replace h := of_decide_eq_true h) | with_reducible (replace h := of_decide_eq_false h) | with_reducible (replace h := bnt h) | with_reducible (replace h := bnf h) | with_reducible (replace h := Int.not_lt.mp h) | with_reducible (replace h := Int.not_le.mp h) | with_reducible (replace h := band_dec h) | with_reducible (replace h := band_decF h) | with_reducible (replace h := bor_dec h) | with_reducible (replace h := bor_decF h)))) <;> (try (exfalso; first | contradiction | omega))) | fail)
  obtain ⟨gr, rfl⟩ : ∃ x, x = g := ⟨_, rfl⟩
  obtain ⟨gR, rfl⟩ : ∃ x, x = g := ⟨_, rfl⟩
  obtain ⟨gN, rfl⟩ : ∃ x, x = g := ⟨_, rfl⟩
  obtain ⟨gt, rfl⟩ : ∃ x, x = g := ⟨_, rfl⟩
  obtain ⟨gp, rfl⟩ : ∃ x, x = g := ⟨_, rfl⟩
  obtain ⟨gw, rfl⟩ : ∃ x, x = g := ⟨_, rfl⟩
  obtain ⟨gl, rfl⟩ : ∃ x, x = g := ⟨_, rfl⟩
  obtain ⟨gS, rfl⟩ : ∃ x, x = g := ⟨_, rfl⟩
  obtain ⟨gn, rfl⟩ : ∃ x, x = g := ⟨_, rfl⟩
  have i1 : tripL (sv0 n ps.length) = List.replicate hs.length 0 := by rw [hlen]; simp [tripL, sv0]
  have i2 : nextL (sv0 n ps.length) = List.replicate hs.length 0 := by rw [hlen]; simp [nextL, sv0]
  refine T_loop (X := Nat × (Option Addr × Nat) × (Option Addr × Nat) × (Option Addr × Nat) × (Option Addr × Nat) × (Option Addr × Nat)) (fun x => [(43, .int .i64 (x.1 : Nat)), (17, .slice x.2.2.2.2.2.1 (runV n fast ps l x.1).evs.length x.2.2.2.2.2.2), (42, .int .i64 (l.length : Nat)), (41, .slice B0 l.length d0), (1, .bool fast), (2, .slice D0 hs.length e0), (4, .pointer (some ⟨gn, 0, none⟩)), (10, .slice (some ⟨gS, 0, none⟩) n n), (11, .pointer (some ⟨gl, 0, none⟩)), (12, .pointer (some ⟨gw, 0, none⟩)), (13, .pointer (some ⟨gp, 0, none⟩)), (14, .pointer (some ⟨gt, 0, none⟩)), (15, .slice (some ⟨gN, 0, none⟩) hs.length hs.length), (16, .pointer (some ⟨gr, 0, none⟩)), (18, .func (.func 31) #[] #[]), (19, .func (.func 32) #[] #[.pointer (some ⟨gw, 0, none⟩), .pointer (some ⟨gp, 0, none⟩), .pointer (some ⟨gt, 0, none⟩), .pointer (some ⟨gr, 0, none⟩), .pointer (some ⟨gn, 0, none⟩), .pointer (some ⟨gl, 0, none⟩)])]) (fun x => [entBlk gw 58 #[.slice x.2.1.1 (whoL (runV n fast ps l x.1)).length x.2.1.2], entOwn natEnc 1 3 x.2.1.1 x.2.1.2 (whoL (runV n fast ps l x.1)), entBlk gp 90 #[.slice x.2.2.1.1 (putL (runV n fast ps l x.1)).length x.2.2.1.2], entOwn boolEnc 1 4 x.2.2.1.1 x.2.2.1.2 (putL (runV n fast ps l x.1)), entBlk gt 91 #[.slice x.2.2.2.1.1 (tagL (runV n fast ps l x.1)).length x.2.2.2.1.2], entOwn Tg.enc 3 92 x.2.2.2.1.1 x.2.2.2.1.2 (tagL (runV n fast ps l x.1)), entBlk gr 58 #[.slice (some ⟨gR, 0, none⟩) hs.length hs.length], entBlk gn 3 #[.int .i64 (n : Nat)], entOwn natEnc 1 3 (some ⟨gR, 0, none⟩) hs.length (tripL (runV n fast ps l x.1)), entBlk gl 89 #[.slice x.2.2.2.2.1.1 (runV n fast ps l x.1).ml.length x.2.2.2.2.1.2], entOwn Ml.enc 6 95 x.2.2.2.2.1.1 x.2.2.2.2.1.2 (runV n fast ps l x.1).ml, entOwn Si.enc 4 37 (some ⟨gS, 0, none⟩) n (runV n fast ps l x.1).at_, entOwn natEnc 1 3 (some ⟨gN, 0, none⟩) hs.length (nextL (runV n fast ps l x.1)), entOwn Ev.enc 4 34 x.2.2.2.2.2.1 x.2.2.2.2.2.2 (runV n fast ps l x.1).evs])
    (fun x => x.1 ≤ l.length) (fun x => l.length - x.1) (0, (none, 0), (none, 0), (none, 0), (none, 0), (none, 0)) (by (try dsimp only); omega) (by (try dsimp only); rw [hr0]; (repeat (first | exact SubE.nil _ | refine SubE.cons rfl ?_))) (fun w' hw => by
      dsimp only
      rw [hr0, i1, i2]
      have h1 := ((((hw.nilOwn natEnc 1 3).nilOwn boolEnc 1 4).nilOwn Tg.enc 3 92).nilOwn Ml.enc 6 95).nilOwn Ev.enc 4 34
      show Mem _ w' [entBlk gw 58 #[.slice none 0 0], entOwn natEnc 1 3 none 0 [], entBlk gp 90 #[.slice none 0 0], entOwn boolEnc 1 4 none 0 [], entBlk gt 91 #[.slice none 0 0], entOwn Tg.enc 3 92 none 0 [], entBlk gr 58 #[.slice (some ⟨gR, 0, none⟩) hs.length hs.length], entBlk gn 3 #[.int .i64 (n : Nat)], entOwn natEnc 1 3 (some ⟨gR, 0, none⟩) hs.length (List.replicate hs.length 0), entBlk gl 89 #[.slice none 0 0], entOwn Ml.enc 6 95 none 0 [], entOwn Si.enc 4 37 (some ⟨gS, 0, none⟩) n (List.replicate n ⟨0, 0, 0, false⟩), entOwn natEnc 1 3 (some ⟨gN, 0, none⟩) hs.length (List.replicate hs.length 0), entOwn Ev.enc 4 34 none 0 []]
      exact h1.sel (by (repeat (first | exact Sel.nil _ | (apply Sel.cons; (repeat (first | with_reducible exact Pick.here _ _ | with_reducible apply Pick.there))))))) ?_
  clear i1 i2 hr0
  rintro ⟨k, a, b, c, d, e⟩ hk
  dsimp only at hk ⊢
  by_cases hkl : k < l.length
  · have hx := hact k hkl
    rw [show l.getD k default = l[k] by simp [hkl]] at hx
    have hok := hrun k hk
    have hsk : runV n fast ps l (k + 1) = actV n fast ps (runV n fast ps l k) l[k] := by rw [runV, show l.getD k default = l[k] by simp [hkl]]
    obtain ⟨s', hs'⟩ : ∃ s', runV n fast ps l (k + 1) = s' := ⟨_, rfl⟩
    rw [hs'] at hsk
    obtain ⟨s, hs0⟩ : ∃ s, runV n fast ps l k = s := ⟨_, rfl⟩
    rw [hs0] at hsk hok ⊢
    clear hrun
    obtain ⟨m, hm⟩ : ∃ m, hs.length = m := ⟨_, rfl⟩
    rw [hm] at hl8 ⊢
    repeat' (first
      | ((with_reducible refine T_cutB (X := (Option Addr × Nat) × (Option Addr × Nat) × (Option Addr × Nat) × (Option Addr × Nat) × (Option Addr × Nat)) 1 (fun z => [(43, .int .i64 (k : Nat)), (17, .slice z.2.2.2.2.1 s'.evs.length z.2.2.2.2.2), (42, .int .i64 (l.length : Nat)), (41, .slice B0 l.length d0), (1, .bool fast), (2, .slice D0 m e0), (4, .pointer (some ⟨gn, 0, none⟩)), (10, .slice (some ⟨gS, 0, none⟩) n n), (11, .pointer (some ⟨gl, 0, none⟩)), (12, .pointer (some ⟨gw, 0, none⟩)), (13, .pointer (some ⟨gp, 0, none⟩)), (14, .pointer (some ⟨gt, 0, none⟩)), (15, .slice (some ⟨gN, 0, none⟩) m m), (16, .pointer (some ⟨gr, 0, none⟩)), (18, .func (.func 31) #[] #[]), (19, .func (.func 32) #[] #[.pointer (some ⟨gw, 0, none⟩), .pointer (some ⟨gp, 0, none⟩), .pointer (some ⟨gt, 0, none⟩), .pointer (some ⟨gr, 0, none⟩), .pointer (some ⟨gn, 0, none⟩), .pointer (some ⟨gl, 0, none⟩)])]) (fun z => [entBlk gw 58 #[.slice z.1.1 (whoL s').length z.1.2], entOwn natEnc 1 3 z.1.1 z.1.2 (whoL s'), entBlk gp 90 #[.slice z.2.1.1 (putL s').length z.2.1.2], entOwn boolEnc 1 4 z.2.1.1 z.2.1.2 (putL s'), entBlk gt 91 #[.slice z.2.2.1.1 (tagL s').length z.2.2.1.2], entOwn Tg.enc 3 92 z.2.2.1.1 z.2.2.1.2 (tagL s'), entBlk gr 58 #[.slice (some ⟨gR, 0, none⟩) m m], entBlk gn 3 #[.int .i64 (n : Nat)], entOwn natEnc 1 3 (some ⟨gR, 0, none⟩) m (tripL s'), entBlk gl 89 #[.slice z.2.2.2.1.1 s'.ml.length z.2.2.2.1.2], entOwn Ml.enc 6 95 z.2.2.2.1.1 z.2.2.2.1.2 s'.ml, entOwn Si.enc 4 37 (some ⟨gS, 0, none⟩) n s'.at_, entOwn natEnc 1 3 (some ⟨gN, 0, none⟩) m (nextL s'), entOwn Ev.enc 4 34 z.2.2.2.2.1 z.2.2.2.2.2 s'.evs]) (fun _ => True) ?_ ?_); (focus (refine T_weak [(43, .int .i64 (k : Nat)), (17, .slice e.1 s.evs.length e.2), (42, .int .i64 (l.length : Nat)), (41, .slice B0 l.length d0), (1, .bool fast), (2, .slice D0 m e0), (4, .pointer (some ⟨gn, 0, none⟩)), (10, .slice (some ⟨gS, 0, none⟩) n n), (11, .pointer (some ⟨gl, 0, none⟩)), (12, .pointer (some ⟨gw, 0, none⟩)), (13, .pointer (some ⟨gp, 0, none⟩)), (14, .pointer (some ⟨gt, 0, none⟩)), (15, .slice (some ⟨gN, 0, none⟩) m m), (16, .pointer (some ⟨gr, 0, none⟩)), (18, .func (.func 31) #[] #[]), (19, .func (.func 32) #[] #[.pointer (some ⟨gw, 0, none⟩), .pointer (some ⟨gp, 0, none⟩), .pointer (some ⟨gt, 0, none⟩), .pointer (some ⟨gr, 0, none⟩), .pointer (some ⟨gn, 0, none⟩), .pointer (some ⟨gl, 0, none⟩)])] [entBlk gw 58 #[.slice a.1 (whoL s).length a.2], entOwn natEnc 1 3 a.1 a.2 (whoL s), entBlk gp 90 #[.slice b.1 (putL s).length b.2], entOwn boolEnc 1 4 b.1 b.2 (putL s), entBlk gt 91 #[.slice c.1 (tagL s).length c.2], entOwn Tg.enc 3 92 c.1 c.2 (tagL s), entBlk gr 58 #[.slice (some ⟨gR, 0, none⟩) m m], entBlk gn 3 #[.int .i64 (n : Nat)], entOwn natEnc 1 3 (some ⟨gR, 0, none⟩) m (tripL s), entBlk gl 89 #[.slice d.1 s.ml.length d.2], entOwn Ml.enc 6 95 d.1 d.2 s.ml, entOwn Si.enc 4 37 (some ⟨gS, 0, none⟩) n s.at_, entOwn natEnc 1 3 (some ⟨gN, 0, none⟩) m (nextL s), entOwn Ev.enc 4 34 e.1 e.2 s.evs] (by (repeat (first | exact SubE.nil _ | refine SubE.cons rfl ?_))) (List.Sublist.refl _) ?_; exact k_round gw gp gt gr gn gl gS gN gR n m k a b c d e fast l B0 D0 d0 e0 s w ps k hs hkl hB hD hm h8 hok (by omega) hn5 hx s' hsk _ (by repeat (first | with_reducible exact Blind.body | with_reducible apply Blind.seq | with_reducible apply Blind.block)))))
      | ((with_reducible (first | apply TD_e2z | apply TD_e3z | apply TL_e | apply TD_e2 | apply TD_e3)); (first | ((with_reducible apply ES_makeSlice (enc := Si.enc) (z0 := ⟨0, 0, 0, false⟩)); exact rfl; exact rfl; exact rfl; (first | omega | (simp; omega)); decide; exact rfl) | ((with_reducible apply ES_makeSlice (enc := natEnc) (z0 := 0)); exact rfl; exact rfl; exact rfl; (first | omega | (simp; omega)); decide; exact rfl) | exact ES.auto); (first | exact rfl | exact ⟨rfl, rfl, rfl⟩); (first | (rintro _ _ ⟨rfl, rfl⟩) | (rintro _ _ ⟨g, rfl, rfl⟩) | (rintro _ _ ⟨A', c', rfl, rfl⟩)); (try refine ⟨SUB, ?_⟩)) | (refine GO ?_) | (refine GOE ?_; (first | (rintro _ _ ⟨rfl, rfl⟩) | (rintro _ _ ⟨g, rfl, rfl⟩) | (rintro _ _ ⟨A', c', rfl, rfl⟩))) | ((refine GO2 ?_ ?_) <;> intro h <;> (try (repeat (first | with_reducible (replace h := of_decide_eq_true h) | with_reducible (replace h := of_decide_eq_false h) | with_reducible (replace h := bnt h) | with_reducible (replace h := bnf h) | with_reducible (replace h := Int.not_lt.mp h) | with_reducible (replace h := Int.not_le.mp h) | with_reducible (replace h := band_dec h) | with_reducible (replace h := band_decF h) | with_reducible (replace h := bor_dec h) | with_reducible (replace h := bor_decF h)))) <;> (try (exfalso; first | contradiction | omega))) | fail)
    rintro ⟨a2, b2, c2, d2, e2⟩ -
    dsimp only
    repeat' (first | ((with_reducible (first | apply TD_e2z | apply TD_e3z | apply TL_e | apply TD_e2 | apply TD_e3)); (first | ((with_reducible apply ES_makeSlice (enc := Si.enc) (z0 := ⟨0, 0, 0, false⟩)); exact rfl; exact rfl; exact rfl; (first | omega | (simp; omega)); decide; exact rfl) | ((with_reducible apply ES_makeSlice (enc := natEnc) (z0 := 0)); exact rfl; exact rfl; exact rfl; (first | omega | (simp; omega)); decide; exact rfl) | exact ES.auto); (first | exact rfl | exact ⟨rfl, rfl, rfl⟩); (first | (rintro _ _ ⟨rfl, rfl⟩) | (rintro _ _ ⟨g, rfl, rfl⟩) | (rintro _ _ ⟨A', c', rfl, rfl⟩)); (try refine ⟨SUB, ?_⟩)) | (refine GO ?_) | (refine GOE ?_; (first | (rintro _ _ ⟨rfl, rfl⟩) | (rintro _ _ ⟨g, rfl, rfl⟩) | (rintro _ _ ⟨A', c', rfl, rfl⟩))) | ((refine GO2 ?_ ?_) <;> intro h <;> (try (repeat (first | with_reducible (replace h := of_decide_eq_true h) | with_reducible (replace h := of_decide_eq_false h) | with_reducible (replace h := bnt h) | with_reducible (replace h := bnf h) | with_reducible (replace h := Int.not_lt.mp h) | with_reducible (replace h := Int.not_le.mp h) | with_reducible (replace h := band_dec h) | with_reducible (replace h := band_decF h) | with_reducible (replace h := bor_dec h) | with_reducible (replace h := bor_decF h)))) <;> (try (exfalso; first | contradiction | omega))) | fail)
    apply At_rounds (k + 1, a2, b2, c2, d2, e2)
    case hE => (try dsimp only); rw [hs']; (repeat (first | exact SubE.nil _ | refine SubE.cons rfl ?_))
    case hS =>
      intro w' hw
      dsimp only
      rw [hs']
      exact hw.sel (by (repeat (first | exact Sel.nil _ | (apply Sel.cons; (repeat (first | with_reducible exact Pick.here _ _ | with_reducible apply Pick.there))))))
    case hμ => (try dsimp only); omega
    case hp => exact hkl
  · obtain rfl : k = l.length := by omega
    have hat := (hrun l.length (Nat.le_refl _)).at_
    generalize runV n fast ps l l.length = R at *
    obtain ⟨at_, ml, tr, pe, evs⟩ := R
    dsimp only at hat ⊢
    subst hat
    repeat' (first | ((with_reducible (first | apply TD_e2z | apply TD_e3z | apply TL_e | apply TD_e2 | apply TD_e3)); (first | ((with_reducible apply ES_makeSlice (enc := Si.enc) (z0 := ⟨0, 0, 0, false⟩)); exact rfl; exact rfl; exact rfl; (first | omega | (simp; omega)); decide; exact rfl) | ((with_reducible apply ES_makeSlice (enc := natEnc) (z0 := 0)); exact rfl; exact rfl; exact rfl; (first | omega | (simp; omega)); decide; exact rfl) | exact ES.auto); (first | exact rfl | exact ⟨rfl, rfl, rfl⟩); (first | (rintro _ _ ⟨rfl, rfl⟩) | (rintro _ _ ⟨g, rfl, rfl⟩) | (rintro _ _ ⟨A', c', rfl, rfl⟩)); (try refine ⟨SUB, ?_⟩)) | (refine GO ?_) | (refine GOE ?_; (first | (rintro _ _ ⟨rfl, rfl⟩) | (rintro _ _ ⟨g, rfl, rfl⟩) | (rintro _ _ ⟨A', c', rfl, rfl⟩))) | ((refine GO2 ?_ ?_) <;> intro h <;> (try (repeat (first | with_reducible (replace h := of_decide_eq_true h) | with_reducible (replace h := of_decide_eq_false h) | with_reducible (replace h := bnt h) | with_reducible (replace h := bnf h) | with_reducible (replace h := Int.not_lt.mp h) | with_reducible (replace h := Int.not_le.mp h) | with_reducible (replace h := band_dec h) | with_reducible (replace h := band_decF h) | with_reducible (replace h := bor_dec h) | with_reducible (replace h := bor_decF h)))) <;> (try (exfalso; first | contradiction | omega))) | fail)
    (refine At_ret Try.results8 rfl (fun w' hw => ?_))
    exact ⟨(e, (some ⟨gS, 0, none⟩, at_.length)), rfl, (hw.anyN 0).sel (by (repeat (first | exact Sel.nil _ | (apply Sel.cons; (repeat (first | with_reducible exact Pick.here _ _ | with_reducible apply Pick.there))))))⟩
end
end Go.Proofs.Ytaonijdhmgcbjaa

namespace Go.Proofs.Ytaonijdhmgcbjaa
open Go.RowKit

instance : DecidableEq Si := fun a b => decidable_of_iff (a.s = b.s ∧ a.w = b.w ∧ a.v = b.v ∧ a.down = b.down) ⟨fun h => by
  obtain ⟨h1, h2, h3, h4⟩ := h
  cases a; cases b
  simp only at h1 h2 h3 h4
  subst h1 h2 h3 h4; rfl, fun h => by subst h; exact ⟨rfl, rfl, rfl, rfl⟩⟩
def siqEqB (x y : Si) : Bool := decide (x.s = y.s) && (decide (x.w = y.w) && (decide (x.v = y.v) && (decide (x.down = y.down))))
theorem siqEqB_eq (x y : Si) : siqEqB x y = true ↔ x = y := by
  cases x; cases y
  simp [siqEqB]
theorem siqCells (v : Si) : Si.enc v = [.int .i64 v.s, .int .i64 v.w, .int .i64 v.v, .bool v.down] := rfl
set_option maxRecDepth 40000 in
theorem run_neq_siq (x y : Si) (w : World) : (binOp .neq 37 (.agg (Si.enc x).toArray) (.agg (Si.enc y).toArray)).run Try.prog w = .ok (.bool (!siqEqB x y)) w := by
  obtain ⟨x1, x2, x3, x4⟩ := x
  obtain ⟨y1, y2, y3, y4⟩ := y
  rw [siqCells, siqCells, run_neq_struct]
  go_simp
  unfold siqEqB
  repeat' split
  all_goals simp_all
theorem run_eqGuard_siq (op : BinOp) (x y : Operand) (xs ys : Array Value) (w : World) : (eqGuard op 37 x y (.agg xs) (.agg ys)).run Try.prog w = .ok () w :=
  run_eqGuard_agg w op _ x y xs ys Try.eqGuardType37
section
variable {C : Ctx} {E : Slots} {S : List Ent} {ty ty3 : Nat} {x y : Operand} (u v : Si)
theorem QS_neqSiq (hx : evo E x = some (.agg (Si.enc u).toArray)) (hy : evo E y = some (.agg (Si.enc v).toArray)) : QS Try.prog C E S (.binOp .neq 37 x y ty3) ty (.bool (!siqEqB u v)) :=
  QS.of (fun a w ha _ => by
    have h2 := run_neq_siq u v w
    have hg := run_eqGuard_siq .neq x y (Si.enc u).toArray (Si.enc v).toArray w
    simp only [execOp, ha.evo hx, ha.evo hy, Sem.run_bind, hg, Result.andThen_ok, h2]
    simp)
end
set_option maxRecDepth 100000 in
set_option maxHeartbeats 2000000 in
theorem equalSiq_any (A B : Option Addr) (c d : Nat) (l m : List Si) (w : World) (hl : l.length ≤ 9223372036854775807) (hm : m.length ≤ 9223372036854775807) (hA : RdE Si.enc 4 w A l) (hB : RdE Si.enc 4 w B m) :
    Calls Try.prog 10 #[.slice A l.length c, .slice B m.length d] w fun e w' => e = .returned (.bool (decide (l = m))) ∧ Below w.heap.size w w' := by
  refine calls_T (S := []) [] Try.func10 rfl Try.ntmps10 (by simp) (Mem.nil _) ?_
  repeat' (first | ((first | with_reducible (first | apply TL_q | apply TD_q0 | apply TD_q1 | apply TD_q2 | apply TD_q3) | ((with_reducible (first | apply TD_q0y | apply TD_q1y)); exact rfl; exact rfl; (with_reducible exact rfl))); (first | exact QS.auto | ((with_reducible apply QS_neqSiq); exact rfl; exact rfl)); exact rfl) | (refine GO ?_) | (refine GOE ?_; (first | (rintro _ _ ⟨rfl, rfl⟩) | (rintro _ _ ⟨g, rfl, rfl⟩) | (rintro _ _ ⟨A', c', rfl, rfl⟩))) | ((refine GO2 ?_ ?_) <;> intro h <;> (try (repeat (first | with_reducible (replace h := of_decide_eq_true h) | with_reducible (replace h := of_decide_eq_false h) | with_reducible (replace h := bnt h) | with_reducible (replace h := bnf h) | with_reducible (replace h := Int.not_lt.mp h) | with_reducible (replace h := Int.not_le.mp h) | with_reducible (replace h := band_dec h) | with_reducible (replace h := band_decF h) | with_reducible (replace h := bor_dec h) | with_reducible (replace h := bor_decF h)))) <;> (try (exfalso; first | contradiction | omega))) | fail)
  · (refine At_ret Try.results10 rfl (fun w' hw => ?_))
    rw [decide_eq_false (fun e => by subst e; omega)]
    exact ⟨rfl, hw.below0 rfl⟩
  have hlen : l.length = m.length := by omega
  refine T_loop (X := Nat) (fun k => [(13, .int .i64 (k : Nat)), (12, .int .i64 l.length), (1, .slice B m.length d), (0, .slice A l.length c)])
    (fun _ => []) (fun k => k ≤ l.length ∧ Hid (∀ j, j < k → l[j]? = m[j]?)) (fun k => l.length - k) 0 ⟨by omega, Lib.hid (by omega)⟩ (by (repeat (first | exact SubE.nil _ | refine SubE.cons rfl ?_))) (by exact SUBS) ?_
  rintro k ⟨hk, hall⟩
  by_cases hlt : k < l.length
  · obtain ⟨b, o, rfl, hb0⟩ := RdE.open hA (by omega)
    obtain ⟨b2, o2, rfl, hb2⟩ := RdE.open hB (by omega)
    have hlt2 : k < m.length := by omega
    have hev := siqEqB_eq l[k] m[k]
    repeat' (first | ((first | with_reducible (first | apply TL_q | apply TD_q0 | apply TD_q1 | apply TD_q2 | apply TD_q3) | ((with_reducible (first | apply TD_q0y | apply TD_q1y)); exact rfl; exact rfl; (with_reducible exact rfl))); (first | exact QS.auto | ((with_reducible apply QS_neqSiq); exact rfl; exact rfl)); exact rfl) | (refine GG ?_) | (refine GE ?_; (first | (rintro _ _ ⟨rfl, rfl⟩) | (rintro _ _ ⟨g, rfl, rfl⟩) | (rintro _ _ ⟨A', c', rfl, rfl⟩)); (try refine ⟨SUB, ?_⟩)) | ((refine GO2 ?_ ?_) <;> intro h <;> (try (repeat (first | with_reducible (replace h := of_decide_eq_true h) | with_reducible (replace h := of_decide_eq_false h) | with_reducible (replace h := bnt h) | with_reducible (replace h := bnf h) | with_reducible (replace h := Int.not_lt.mp h) | with_reducible (replace h := Int.not_le.mp h) | with_reducible (replace h := band_dec h) | with_reducible (replace h := band_decF h) | with_reducible (replace h := bor_dec h) | with_reducible (replace h := bor_decF h)))) <;> (try (exfalso; first | contradiction | omega))) | (refine GOF ?_ ?_) | ((with_reducible apply T_draw (id := 6) 1000 (OT.seq [(0, 0), (0, 1), (0, 2), (0, 4), (0, 5), (0, 6), (1, 3), (1, 7), (0, 8)] .nil)); kernel_rfl; exact rfl; kernel_rfl; (repeat (first | with_reducible exact Blind.body | with_reducible apply Blind.seq | with_reducible apply Blind.block))) | fail)
    · (refine At_ret Try.results10 rfl (fun w' hw => ?_))
      have hne : ¬ l[k] = m[k] := fun e => by
        have h1 : siqEqB l[k] m[k] = false := by assumption
        rw [hev.2 e] at h1; cases h1
      rw [decide_eq_false (fun e => hne (by subst e; rfl))]
      exact ⟨rfl, hw.below0 rfl⟩
    · have he : l[k] = m[k] := hev.1 (by assumption)
      (refine At_rounds (k + 1) ?_ ?_ ?_ ?_; (exact ⟨by show k + 1 ≤ l.length; omega, Lib.hid (fun j hj => by
        by_cases e : j = k
        · subst e; rw [List.getElem?_eq_getElem hlt, List.getElem?_eq_getElem hlt2, he]
        · exact hall.out j (by omega))⟩); (omega); ((repeat (first | exact SubE.nil _ | refine SubE.cons rfl ?_))); (exact SUBS))
  · obtain rfl : k = l.length := by omega
    repeat' (first | ((first | with_reducible (first | apply TL_q | apply TD_q0 | apply TD_q1 | apply TD_q2 | apply TD_q3) | ((with_reducible (first | apply TD_q0y | apply TD_q1y)); exact rfl; exact rfl; (with_reducible exact rfl))); (first | exact QS.auto | ((with_reducible apply QS_neqSiq); exact rfl; exact rfl)); exact rfl) | (refine GO ?_) | (refine GOE ?_; (first | (rintro _ _ ⟨rfl, rfl⟩) | (rintro _ _ ⟨g, rfl, rfl⟩) | (rintro _ _ ⟨A', c', rfl, rfl⟩))) | ((refine GO2 ?_ ?_) <;> intro h <;> (try (repeat (first | with_reducible (replace h := of_decide_eq_true h) | with_reducible (replace h := of_decide_eq_false h) | with_reducible (replace h := bnt h) | with_reducible (replace h := bnf h) | with_reducible (replace h := Int.not_lt.mp h) | with_reducible (replace h := Int.not_le.mp h) | with_reducible (replace h := band_dec h) | with_reducible (replace h := band_decF h) | with_reducible (replace h := bor_dec h) | with_reducible (replace h := bor_decF h)))) <;> (try (exfalso; first | contradiction | omega))) | fail)
    (refine At_ret Try.results10 rfl (fun w' hw => ?_))
    have he : l = m := by
      apply List.ext_getElem?
      intro j
      by_cases hj : j < l.length
      · exact hall.out j hj
      · rw [List.getElem?_eq_none (by omega), List.getElem?_eq_none (by omega)]
    rw [decide_eq_true he]
    exact ⟨rfl, hw.below0 rfl⟩
end Go.Proofs.Ytaonijdhmgcbjaa

namespace Go.Proofs.Ytaonijdhmgcbjaa
open Go.RowKit

/-! lists of events compared -/
def evEqB (x y : Ev) : Bool := decide (x.who = y.who) && (decide (x.thing = y.thing) && (decide (x.kind = y.kind) && decide (x.value = y.value)))
theorem evEqB_eq (x y : Ev) : evEqB x y = true ↔ x = y := by
  cases x; cases y
  simp [evEqB]
set_option maxRecDepth 40000 in
theorem run_neq_ev (x y : Ev) (w : World) : (binOp .neq 34 (.agg (Ev.enc x).toArray) (.agg (Ev.enc y).toArray)).run Try.prog w = .ok (.bool (!evEqB x y)) w := by
  obtain ⟨x1, x2, x3, x4⟩ := x
  obtain ⟨y1, y2, y3, y4⟩ := y
  rw [evCells, evCells, run_neq_struct]
  go_simp
  unfold evEqB
  repeat' split
  all_goals simp_all
theorem run_eqGuard_ev (op : BinOp) (x y : Operand) (xs ys : Array Value) (w : World) : (eqGuard op 34 x y (.agg xs) (.agg ys)).run Try.prog w = .ok () w :=
  run_eqGuard_agg w op _ x y xs ys Try.eqGuardType34
section
variable {C : Ctx} {E : Slots} {S : List Ent} {ty ty3 : Nat} {x y : Operand} (u v : Ev)
theorem QS_neqEv (hx : evo E x = some (.agg (Ev.enc u).toArray)) (hy : evo E y = some (.agg (Ev.enc v).toArray)) : QS Try.prog C E S (.binOp .neq 34 x y ty3) ty (.bool (!evEqB u v)) :=
  QS.of (fun a w ha _ => by
    have h2 := run_neq_ev u v w
    have hg := run_eqGuard_ev .neq x y (Ev.enc u).toArray (Ev.enc v).toArray w
    simp only [execOp, ha.evo hx, ha.evo hy, Sem.run_bind, hg, Result.andThen_ok, h2]
    simp)
end
set_option maxRecDepth 100000 in
set_option maxHeartbeats 2000000 in
theorem equalEv_any (A B : Option Addr) (c d : Nat) (l m : List Ev) (w : World) (hl : l.length ≤ 9223372036854775807) (hm : m.length ≤ 9223372036854775807) (hA : RdEv w A l) (hB : RdEv w B m) :
    Calls Try.prog 9 #[.slice A l.length c, .slice B m.length d] w fun e w' => e = .returned (.bool (decide (l = m))) ∧ Below w.heap.size w w' := by
  refine calls_T (S := []) [] Try.func9 rfl Try.ntmps9 (by simp) (Mem.nil _) ?_
  repeat' (first | ((first | with_reducible (first | apply TL_q | apply TD_q0 | apply TD_q1 | apply TD_q2 | apply TD_q3) | ((with_reducible (first | apply TD_q0y | apply TD_q1y)); exact rfl; exact rfl; (with_reducible exact rfl))); (first | exact QS.auto | ((with_reducible apply QS_neqEv); exact rfl; exact rfl)); exact rfl) | (refine GO ?_) | (refine GOE ?_; (first | (rintro _ _ ⟨rfl, rfl⟩) | (rintro _ _ ⟨g, rfl, rfl⟩) | (rintro _ _ ⟨A', c', rfl, rfl⟩))) | ((refine GO2 ?_ ?_) <;> intro h <;> (try (repeat (first | with_reducible (replace h := of_decide_eq_true h) | with_reducible (replace h := of_decide_eq_false h) | with_reducible (replace h := bnt h) | with_reducible (replace h := bnf h) | with_reducible (replace h := Int.not_lt.mp h) | with_reducible (replace h := Int.not_le.mp h) | with_reducible (replace h := band_dec h) | with_reducible (replace h := band_decF h) | with_reducible (replace h := bor_dec h) | with_reducible (replace h := bor_decF h)))) <;> (try (exfalso; first | contradiction | omega))) | fail)
  · (refine At_ret Try.results9 rfl (fun w' hw => ?_))
    rw [decide_eq_false (fun e => by subst e; omega)]
    exact ⟨rfl, hw.below0 rfl⟩
  have hlen : l.length = m.length := by omega
  refine T_loop (X := Nat) (fun k => [(13, .int .i64 (k : Nat)), (12, .int .i64 l.length), (1, .slice B m.length d), (0, .slice A l.length c)])
    (fun _ => []) (fun k => k ≤ l.length ∧ Hid (∀ j, j < k → l[j]? = m[j]?)) (fun k => l.length - k) 0 ⟨by omega, Lib.hid (by omega)⟩ (by (repeat (first | exact SubE.nil _ | refine SubE.cons rfl ?_))) (by exact SUBS) ?_
  rintro k ⟨hk, hall⟩
  by_cases hlt : k < l.length
  · obtain ⟨b, o, rfl, hb0⟩ := RdE.open hA (by omega)
    obtain ⟨b2, o2, rfl, hb2⟩ := RdE.open hB (by omega)
    have hlt2 : k < m.length := by omega
    have hev := evEqB_eq l[k] m[k]
    repeat' (first | ((first | with_reducible (first | apply TL_q | apply TD_q0 | apply TD_q1 | apply TD_q2 | apply TD_q3) | ((with_reducible (first | apply TD_q0y | apply TD_q1y)); exact rfl; exact rfl; (with_reducible exact rfl))); (first | exact QS.auto | ((with_reducible apply QS_neqEv); exact rfl; exact rfl)); exact rfl) | (refine GG ?_) | (refine GE ?_; (first | (rintro _ _ ⟨rfl, rfl⟩) | (rintro _ _ ⟨g, rfl, rfl⟩) | (rintro _ _ ⟨A', c', rfl, rfl⟩)); (try refine ⟨SUB, ?_⟩)) | ((refine GO2 ?_ ?_) <;> intro h <;> (try (repeat (first | with_reducible (replace h := of_decide_eq_true h) | with_reducible (replace h := of_decide_eq_false h) | with_reducible (replace h := bnt h) | with_reducible (replace h := bnf h) | with_reducible (replace h := Int.not_lt.mp h) | with_reducible (replace h := Int.not_le.mp h) | with_reducible (replace h := band_dec h) | with_reducible (replace h := band_decF h) | with_reducible (replace h := bor_dec h) | with_reducible (replace h := bor_decF h)))) <;> (try (exfalso; first | contradiction | omega))) | (refine GOF ?_ ?_) | ((with_reducible apply T_draw (id := 6) 1000 (OT.seq [(0, 0), (0, 1), (0, 2), (0, 4), (0, 5), (0, 6), (1, 3), (1, 7), (0, 8)] .nil)); kernel_rfl; exact rfl; kernel_rfl; (repeat (first | with_reducible exact Blind.body | with_reducible apply Blind.seq | with_reducible apply Blind.block))) | fail)
    · (refine At_ret Try.results9 rfl (fun w' hw => ?_))
      have hne : ¬ l[k] = m[k] := fun e => by
        have h1 : evEqB l[k] m[k] = false := by assumption
        rw [hev.2 e] at h1; cases h1
      rw [decide_eq_false (fun e => hne (by subst e; rfl))]
      exact ⟨rfl, hw.below0 rfl⟩
    · have he : l[k] = m[k] := hev.1 (by assumption)
      (refine At_rounds (k + 1) ?_ ?_ ?_ ?_; (exact ⟨by show k + 1 ≤ l.length; omega, Lib.hid (fun j hj => by
        by_cases e : j = k
        · subst e; rw [List.getElem?_eq_getElem hlt, List.getElem?_eq_getElem hlt2, he]
        · exact hall.out j (by omega))⟩); (omega); ((repeat (first | exact SubE.nil _ | refine SubE.cons rfl ?_))); (exact SUBS))
  · obtain rfl : k = l.length := by omega
    repeat' (first | ((first | with_reducible (first | apply TL_q | apply TD_q0 | apply TD_q1 | apply TD_q2 | apply TD_q3) | ((with_reducible (first | apply TD_q0y | apply TD_q1y)); exact rfl; exact rfl; (with_reducible exact rfl))); (first | exact QS.auto | ((with_reducible apply QS_neqEv); exact rfl; exact rfl)); exact rfl) | (refine GO ?_) | (refine GOE ?_; (first | (rintro _ _ ⟨rfl, rfl⟩) | (rintro _ _ ⟨g, rfl, rfl⟩) | (rintro _ _ ⟨A', c', rfl, rfl⟩))) | ((refine GO2 ?_ ?_) <;> intro h <;> (try (repeat (first | with_reducible (replace h := of_decide_eq_true h) | with_reducible (replace h := of_decide_eq_false h) | with_reducible (replace h := bnt h) | with_reducible (replace h := bnf h) | with_reducible (replace h := Int.not_lt.mp h) | with_reducible (replace h := Int.not_le.mp h) | with_reducible (replace h := band_dec h) | with_reducible (replace h := band_decF h) | with_reducible (replace h := bor_dec h) | with_reducible (replace h := bor_decF h)))) <;> (try (exfalso; first | contradiction | omega))) | fail)
    (refine At_ret Try.results9 rfl (fun w' hw => ?_))
    have he : l = m := by
      apply List.ext_getElem?
      intro j
      by_cases hj : j < l.length
      · exact hall.out j hj
      · rw [List.getElem?_eq_none (by omega), List.getElem?_eq_none (by omega)]
    rw [decide_eq_true he]
    exact ⟨rfl, hw.below0 rfl⟩
end Go.Proofs.Ytaonijdhmgcbjaa
