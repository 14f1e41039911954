/- Lemmas for the walks (StB, StC, Bits, RelN, Evq). No condition. -/
import Derived.Test.YtnflkmjfhbfekaaG29
import Derived.Test.YtnflkmjfhbfekaaG21
import Derived.Test.YtnflkmjfhbfekaaG16
import Derived.Test.YtnflkmjfhbfekaaG17
import Derived.Test.YtnflkmjfhbfekaaG01
import Derived.Laws.BitsAllLaws
import Derived.Test.YtnflkmjfhbfekaaG15
import Derived.Test.YtnflkmjfhbfekaaG08
import Derived.Test.YtnflkmjfhbfekaaG05
import Derived.Test.YtnflkmjfhbfekaaG14
set_option linter.unusedSimpArgs false
set_option linter.unusedVariables false
set_option linter.unusedSectionVars false
set_option linter.unnecessarySimpa false
namespace Go.Proofs.Ytnflkmjfhbfekaa
open Go.RowKit
theorem QSarm_StB {p : Prop} (h : p := by (first | ((with_reducible apply QS_load); exact rfl; exact Lds.rd1 (enc := hdEnc) hD1 (by simp) hqs (by rw [hhq, hdEnc_mk2]; rfl)) | ((with_reducible apply QS_load); exact rfl; exact Lds.own1 (enc := intEnc) (by first | ((repeat (first | with_reducible exact List.mem_cons_self | with_reducible apply List.mem_cons_of_mem)); done) | (repeat (first | exact List.Mem.head _ | apply List.Mem.tail))) (by intro x; rfl) (by omega) (by rw [eK]; rfl)) | ((with_reducible apply QS_load); exact rfl; exact Lds.own1 (enc := intEnc) (by first | ((repeat (first | with_reducible exact List.mem_cons_self | with_reducible apply List.mem_cons_of_mem)); done) | (repeat (first | exact List.Mem.head _ | apply List.Mem.tail))) (by intro x; rfl) (by omega) (by rw [eO]; rfl)) | ((with_reducible apply QS_load); exact rfl; exact Lds.own1 (enc := intEnc) (by first | ((repeat (first | with_reducible exact List.mem_cons_self | with_reducible apply List.mem_cons_of_mem)); done) | (repeat (first | exact List.Mem.head _ | apply List.Mem.tail))) (by intro x; rfl) (by omega) (by rw [eR]; rfl)) | exact QS.auto)) : p := h
theorem ESarm_StB {p : Prop} (h : p := by (first | ((with_reducible apply ES_makeSlice (enc := Hz.enc) (z0 := ⟨0, 0, 0, 0, 0⟩)); exact rfl; exact rfl; exact rfl; (first | omega | (simp; omega)); decide; exact rfl) | ((with_reducible apply ES_storeOwnAgg (enc := Hz.enc)); exact rfl; exact rfl; exact (Hz.enc_mk _ _ _ _ _).symm; (first | ((repeat (first | with_reducible exact Upd.here _ _ _ | with_reducible apply Upd.there)); done) | (repeat (first | exact Upd.here _ _ _ | apply Upd.there))); (intro x; rfl); omega; exact rfl) | exact ES.auto)) : p := h
set_option linter.unusedSectionVars false

theorem hdEnc_mk2 (a : Option Addr) (n c : Nat) : hdEnc ⟨a, n, c⟩ = [.slice a n c] := rfl
def hzL (s : Ss) : List Hz := s.pe.map fun p => hz p.h
def kL (s : Ss) : List Int := s.pe.map fun p => ((p.k : Nat) : Int)
def opL (s : Ss) : List Int := s.pe.map fun p => ((p.op : Nat) : Int)
def reL (s : Ss) : List Int := s.pe.map (·.res)
theorem mapS_same {β : Type} {f : Sp → β} {l : List Sp} {q : Nat} (h : q < l.length) {p : Sp} (he : f p = f l[q]) : (l.set q p).map f = l.map f := by
  rw [List.map_set, he]
  apply List.ext_getElem
  · simp
  · intro i h1 h2
    rw [List.getElem_set]
    split
    · rename_i e; subst e; simp
    · rfl
section
variable (algo : Int) (D0 B0 : Option Addr) (e0 d0 : Nat) (hs : List Hd) (ps : List (List Ak)) (tu : List Int) (w : World) (hpl : ps.length ≤ 9223372036854775807) (htl : tu.length ≤ 9223372036854775807) (hD : RdRows Ak.enc 3 w D0 hs ps) (hB : RdInt w B0 tu)
  (h0 : pplR [algT algo] ps = 0) (h1 : trnR (ps.length : Int) 300 tu = 0)
include hpl htl hD hB h0 h1
set_option maxRecDepth 100000 in
set_option maxHeartbeats 40000000 in
theorem byStep_any : Calls Try.prog 12 #[.int .i64 algo, .slice D0 hs.length e0, .slice B0 tu.length d0] w fun e w' => ∃ x : Option Addr × Nat, e = .returned (.tuple #[.slice x.1 (runS2 algo ps tu tu.length).evs.length x.2, .int .i64 ((runS2 algo ps tu tu.length).m.anew : Nat)]) ∧
    Mem ⟨0, [], w⟩ w' [entOwn Ev.enc 4 35 x.1 x.2 (runS2 algo ps tu tu.length).evs] := by
  have hlen : hs.length = ps.length := hD.2.1
  obtain ⟨hty, h8, hps⟩ := pplR_ok h0
  obtain ⟨ht3, htu⟩ := trnR_ok h1
  have hrun := fun k hk => runS2_ok hps htu k hk
  have hsuc : ∀ k (hk : k < tu.length), runS2 algo ps tu (k + 1) = stepP2 algo ps (runS2 algo ps tu k) tu[k].toNat := fun k hk => by rw [runS2, show tu.getD k 0 = tu[k] by simp [hk]]
  obtain ⟨hD1, hD2, hD3⟩ := hD
  refine calls_T (S := []) [] Try.func12 rfl Try.ntmps12 (by simp) (Mem.nil _) ?_
  repeat' (first | ((first | with_reducible (first | apply TL_q | apply TD_q0 | apply TD_q1 | apply TD_q2 | apply TD_q3) | ((with_reducible (first | apply TD_q0y | apply TD_q1y)); exact rfl; exact rfl; (with_reducible exact rfl))); exact QSarm_StB; exact rfl) | ((with_reducible (first | apply TD_e2z | apply TD_e3z | apply TL_e | apply TD_e2 | apply TD_e3)); exact ESarm_StB; (first | exact rfl | exact ⟨rfl, rfl, rfl⟩); (first | (rintro _ _ ⟨rfl, rfl⟩) | (rintro _ _ ⟨g, rfl, rfl⟩) | (rintro _ _ ⟨A', c', rfl, rfl⟩)); (try refine ⟨SUB, ?_⟩)) | (refine GG ?_) | (refine GE ?_; (first | (rintro _ _ ⟨rfl, rfl⟩) | (rintro _ _ ⟨g, rfl, rfl⟩) | (rintro _ _ ⟨A', c', rfl, rfl⟩)); (try refine ⟨SUB, ?_⟩)) | ((refine GO2 ?_ ?_) <;> intro h <;> (try (repeat (first | with_reducible (replace h := of_decide_eq_true h) | with_reducible (replace h := of_decide_eq_false h) | with_reducible (replace h := bnt h) | with_reducible (replace h := bnf h) | with_reducible (replace h := Int.not_lt.mp h) | with_reducible (replace h := Int.not_le.mp h) | with_reducible (replace h := band_dec h) | with_reducible (replace h := band_decF h) | with_reducible (replace h := bor_dec h) | with_reducible (replace h := bor_decF h)))) <;> (try (exfalso; first | contradiction | omega))) | (refine GOF ?_ ?_) | ((with_reducible apply T_draw (id := 10) 1000 (OT.seq [(0, 0), (0, 1), (0, 2), (0, 4), (0, 5), (0, 6), (1, 3), (1, 7), (0, 8), (0, 9)] .nil)); kernel_rfl; exact rfl; kernel_rfl; (repeat (first | with_reducible exact Blind.body | with_reducible apply Blind.seq | with_reducible apply Blind.block))) | ((with_reducible apply T_draw (id := 11) 11 (OT.seq [(0, 0), (0, 1), (0, 2), (0, 4), (0, 5), (0, 6), (1, 3), (1, 7), (0, 8), (1, 9), (2, 10), (3, 11)] .nil)); kernel_rfl; exact rfl; kernel_rfl; (repeat (first | with_reducible exact Blind.body | with_reducible apply Blind.seq | with_reducible apply Blind.block))) | ((with_reducible apply T_draw (id := 21) 6 (OT.seq [(0, 0), (0, 1), (0, 3), (0, 4), (0, 5), (1, 2), (3, 6), (0, 7), (0, 8), (0, 9), (0, 10), (0, 11)] .nil)); kernel_rfl; exact rfl; kernel_rfl; (repeat (first | with_reducible exact Blind.body | with_reducible apply Blind.seq | with_reducible apply Blind.block))) | ((with_reducible apply T_draw (id := 25) 1000 (OT.seq [(0, 0), (0, 1), (0, 3), (1, 2), (0, 4)] .nil)); kernel_rfl; exact rfl; kernel_rfl; (repeat (first | with_reducible exact Blind.body | with_reducible apply Blind.seq | with_reducible apply Blind.block))) | fail)
  obtain ⟨gh, rfl⟩ : ∃ x, x = g := ⟨_, rfl⟩
  obtain ⟨gR, rfl⟩ : ∃ x, x = g := ⟨_, rfl⟩
  obtain ⟨gO, rfl⟩ : ∃ x, x = g := ⟨_, rfl⟩
  obtain ⟨gK, rfl⟩ : ∃ x, x = g := ⟨_, rfl⟩
  obtain ⟨gm, rfl⟩ : ∃ x, x = g := ⟨_, rfl⟩
  obtain ⟨gn0, rfl⟩ : ∃ x, x = g := ⟨_, rfl⟩
  obtain ⟨gv0, rfl⟩ : ∃ x, x = g := ⟨_, rfl⟩
  have hr0 : runS2 algo ps tu 0 = ss0 ps.length := rfl
  have i1 : hzL (runS2 algo ps tu 0) = List.replicate hs.length ⟨0, 0, 0, 0, 0⟩ := by rw [hr0, hlen]; simp [hzL, ss0, hz]
  have i2 : kL (runS2 algo ps tu 0) = List.replicate hs.length 0 := by rw [hr0, hlen]; simp [kL, ss0]
  have i3 : opL (runS2 algo ps tu 0) = List.replicate hs.length 0 := by rw [hr0, hlen]; simp [opL, ss0]
  have i4 : reL (runS2 algo ps tu 0) = List.replicate hs.length 0 := by rw [hr0, hlen]; simp [reL, ss0]
  refine T_loop (X := Nat × (Nat × Nat × Nat × Nat) × (Option Addr × Nat)) (fun x => [(36, .int .i64 (x.1 : Nat)), (35, .int .i64 tu.length), (34, .slice B0 tu.length d0), (9, .slice x.2.2.1 (runS2 algo ps tu x.1).evs.length x.2.2.2), (8, .pointer (some ⟨gm, 0, none⟩)), (10, .slice (some ⟨gK, 0, none⟩) hs.length hs.length), (11, .slice (some ⟨gO, 0, none⟩) hs.length hs.length), (12, .slice (some ⟨gR, 0, none⟩) hs.length hs.length), (13, .slice (some ⟨gh, 0, none⟩) hs.length hs.length), (0, .int .i64 algo), (1, .slice D0 hs.length e0)])
    (fun x => [memB ⟨gm, x.2.1.1, x.2.1.2.1, x.2.1.2.2.1, x.2.1.2.2.2, gh, hs.length⟩ (runS2 algo ps tu x.1).m, entOwn intEnc 1 3 (some ⟨x.2.1.1, 0, none⟩) x.2.1.2.1 (runS2 algo ps tu x.1).m.val, entOwn natEnc 1 3 (some ⟨x.2.1.2.2.1, 0, none⟩) x.2.1.2.2.2 (runS2 algo ps tu x.1).m.nxt, entOwn Hz.enc 5 101 (some ⟨gh, 0, none⟩) hs.length (hzL (runS2 algo ps tu x.1)),
      entOwn Ev.enc 4 35 x.2.2.1 x.2.2.2 (runS2 algo ps tu x.1).evs, entOwn intEnc 1 3 (some ⟨gK, 0, none⟩) hs.length (kL (runS2 algo ps tu x.1)), entOwn intEnc 1 3 (some ⟨gO, 0, none⟩) hs.length (opL (runS2 algo ps tu x.1)), entOwn intEnc 1 3 (some ⟨gR, 0, none⟩) hs.length (reL (runS2 algo ps tu x.1))])
    (fun x => x.1 ≤ tu.length) (fun x => tu.length - x.1) (0, (gv0, [(0 : Int), 0].length, gn0, [(0 : Nat), 0].length), (none, 0)) (by (try dsimp only); omega) (by (try dsimp only); rw [hr0]; (repeat (first | exact SubE.nil _ | refine SubE.cons rfl ?_))) (fun w' hw => by
      have hmB : memB ⟨gm, gv0, [(0 : Int), 0].length, gn0, [(0 : Nat), 0].length, gh, hs.length⟩ (runS2 algo ps tu 0).m = entBlk gm 98 #[.slice (some ⟨gv0, 0, none⟩) 2 2, .slice (some ⟨gn0, 0, none⟩) 2 2, .int .i64 0, .int .i64 0, .int .i64 1, .int .i64 1, .int .i64 0] := rfl
      dsimp only
      rw [i1, i2, i3, i4, hmB, show (runS2 algo ps tu 0).m.val = [0, 0] from rfl, show (runS2 algo ps tu 0).m.nxt = [0, 0] from rfl, show (runS2 algo ps tu 0).evs = [] from rfl]
      have h1 := Mem.asOwn (enc := intEnc) (M := 1) (g := gv0) [(0 : Int), 0] (by first | ((repeat (first | with_reducible exact Upd.here _ _ _ | with_reducible apply Upd.there)); done) | (repeat (first | exact Upd.here _ _ _ | apply Upd.there))) rfl (fun _ => rfl) (by simp only [List.length_cons, List.length_nil]; decide) hw
      have h2 := Mem.asOwn (enc := natEnc) (M := 1) (g := gn0) [(0 : Nat), 0] (by first | ((repeat (first | with_reducible exact Upd.here _ _ _ | with_reducible apply Upd.there)); done) | (repeat (first | exact Upd.here _ _ _ | apply Upd.there))) rfl (fun _ => rfl) (by simp only [List.length_cons, List.length_nil]; decide) h1
      have h3 := h2.nilOwn Ev.enc 4 35
      exact h3.sel (by (repeat (first | exact Sel.nil _ | (apply Sel.cons; (repeat (first | with_reducible exact Pick.here _ _ | with_reducible apply Pick.there))))))) ?_
  clear i1 i2 i3 i4 hr0
  rintro ⟨k, ⟨gv, cv, gn, cn⟩, ⟨AE, cE⟩⟩ hk
  dsimp only at hk ⊢
  have hok := hrun k hk
  by_cases hkl : k < tu.length
  · obtain ⟨bB, oB, rfl, _⟩ := RdE.open hB (by omega)
    have hz' := htu k hkl
    have hzz : ((tu[k].toNat : Nat) : Int) = tu[k] := by omega
    have hsk := hsuc k hkl
    clear hrun hsuc
    obtain ⟨s, hs0⟩ : ∃ s, runS2 algo ps tu k = s := ⟨_, rfl⟩
    rw [hs0] at hok hsk ⊢
    have q1 : tu[k].toNat < s.pe.length := by rw [hok.pe]; omega
    have q2 : tu[k].toNat < ps.length := by omega
    have ep : s.pe.getD tu[k].toNat default = s.pe[tu[k].toNat] := by simp [q1]
    have er : ps.getD tu[k].toNat [] = ps[tu[k].toNat] := by simp [q2]
    have hle := hok.each tu[k].toNat q1
    obtain ⟨hrn, hrc, hrlen, hrd⟩ := hD3 tu[k].toNat (by omega) q2
    have hpq := hps tu[k].toNat q2
    rw [er] at hle
    obtain ⟨bD, oD, rfl, _⟩ := RdE.open hD1 (by omega)
    have hqs : tu[k].toNat < hs.length := by omega
    have lH : (hzL s).length = hs.length := by simp [hzL, hok.pe, hlen]
    have lK : (kL s).length = hs.length := by simp [kL, hok.pe, hlen]
    have lO : (opL s).length = hs.length := by simp [opL, hok.pe, hlen]
    have lR : (reL s).length = hs.length := by simp [reL, hok.pe, hlen]
    have eH : (hzL s)[tu[k].toNat]'(by omega) = hz s.pe[tu[k].toNat].h := by simp [hzL]
    have eK : (kL s)[tu[k].toNat]'(by omega) = ((s.pe[tu[k].toNat].k : Nat) : Int) := by simp [kL]
    have eO : (opL s)[tu[k].toNat]'(by omega) = ((s.pe[tu[k].toNat].op : Nat) : Int) := by simp [opL]
    have eR : (reL s)[tu[k].toNat]'(by omega) = s.pe[tu[k].toNat].res := by simp [reL]
    rw [stepP2, ep, er] at hsk
    obtain ⟨⟨pk, op, hd, pr⟩, hpp⟩ : ∃ p, s.pe[tu[k].toNat] = p := ⟨_, rfl⟩
    rw [hpp] at hsk hle eH eK eO eR
    dsimp only at hsk eH eK eO eR
    obtain ⟨l1, l2, l3, l4, l5⟩ := hle
    dsimp only at l1 l2 l3 l4 l5
    by_cases hidle : ps[tu[k].toNat].length ≤ pk
    · rw [if_pos hidle] at hsk
      obtain rfl : pk = ps[tu[k].toNat].length := by omega
      have hns := hrn
      clear hpq l1 l2 l4 l5
      generalize ps[tu[k].toNat] = row at *
      repeat' (first | ((first | with_reducible (first | apply TL_q | apply TD_q0 | apply TD_q1 | apply TD_q2 | apply TD_q3) | ((with_reducible (first | apply TD_q0y | apply TD_q1y)); exact rfl; exact rfl; (with_reducible exact rfl))); exact QSarm_StB; exact rfl) | ((with_reducible (first | apply TD_e2z | apply TD_e3z | apply TL_e | apply TD_e2 | apply TD_e3)); exact ESarm_StB; (first | exact rfl | exact ⟨rfl, rfl, rfl⟩); (first | (rintro _ _ ⟨rfl, rfl⟩) | (rintro _ _ ⟨g, rfl, rfl⟩) | (rintro _ _ ⟨A', c', rfl, rfl⟩)); (try refine ⟨SUB, ?_⟩)) | (refine GG ?_) | (refine GE ?_; (first | (rintro _ _ ⟨rfl, rfl⟩) | (rintro _ _ ⟨g, rfl, rfl⟩) | (rintro _ _ ⟨A', c', rfl, rfl⟩)); (try refine ⟨SUB, ?_⟩)) | ((refine GO2 ?_ ?_) <;> intro h <;> (try (repeat (first | with_reducible (replace h := of_decide_eq_true h) | with_reducible (replace h := of_decide_eq_false h) | with_reducible (replace h := bnt h) | with_reducible (replace h := bnf h) | with_reducible (replace h := Int.not_lt.mp h) | with_reducible (replace h := Int.not_le.mp h) | with_reducible (replace h := band_dec h) | with_reducible (replace h := band_decF h) | with_reducible (replace h := bor_dec h) | with_reducible (replace h := bor_decF h)))) <;> (try (exfalso; first | contradiction | omega))) | (refine GOF ?_ ?_) | ((with_reducible apply T_draw (id := 10) 1000 (OT.seq [(0, 0), (0, 1), (0, 2), (0, 4), (0, 5), (0, 6), (1, 3), (1, 7), (0, 8), (0, 9)] .nil)); kernel_rfl; exact rfl; kernel_rfl; (repeat (first | with_reducible exact Blind.body | with_reducible apply Blind.seq | with_reducible apply Blind.block))) | ((with_reducible apply T_draw (id := 11) 11 (OT.seq [(0, 0), (0, 1), (0, 2), (0, 4), (0, 5), (0, 6), (1, 3), (1, 7), (0, 8), (1, 9), (2, 10), (3, 11)] .nil)); kernel_rfl; exact rfl; kernel_rfl; (repeat (first | with_reducible exact Blind.body | with_reducible apply Blind.seq | with_reducible apply Blind.block))) | ((with_reducible apply T_draw (id := 21) 6 (OT.seq [(0, 0), (0, 1), (0, 3), (0, 4), (0, 5), (1, 2), (3, 6), (0, 7), (0, 8), (0, 9), (0, 10), (0, 11)] .nil)); kernel_rfl; exact rfl; kernel_rfl; (repeat (first | with_reducible exact Blind.body | with_reducible apply Blind.seq | with_reducible apply Blind.block))) | ((with_reducible apply T_draw (id := 25) 1000 (OT.seq [(0, 0), (0, 1), (0, 3), (1, 2), (0, 4)] .nil)); kernel_rfl; exact rfl; kernel_rfl; (repeat (first | with_reducible exact Blind.body | with_reducible apply Blind.seq | with_reducible apply Blind.block))) | fail)
      all_goals first | (exfalso; omega) | skip
      apply At_rounds (k + 1, (gv, cv, gn, cn), (AE, cE))
      case hE => dsimp only; rw [hsk]; (repeat (first | exact SubE.nil _ | refine SubE.cons rfl ?_))
      case hS => dsimp only [memB]; rw [hsk]; exact fun w' hw => hw.sel (by (repeat (first | exact Sel.nil _ | (apply Sel.cons; (repeat (first | with_reducible exact Pick.here _ _ | with_reducible apply Pick.there))))))
      case hμ => (try dsimp only); omega
      case hp => (try dsimp only); omega
    rw [if_neg hidle] at hsk
    have hlt : pk < ps[tu[k].toNat].length := by omega
    have ha : ps[tu[k].toNat].getD pk default = ps[tu[k].toNat][pk] := by simp [hlt]
    rw [ha] at hsk l4 l5
    have hab := kindA_of (hpq pk hlt)
    clear hpq ha er
    obtain ⟨bR, oR, hra, _⟩ := RdE.open hrd (by omega)
    obtain ⟨rc, hhq⟩ : ∃ rc, hs[tu[k].toNat] = ⟨some ⟨bR, oR, none⟩, ps[tu[k].toNat].length, rc⟩ := ⟨hs[tu[k].toNat].c, by rw [← hra, ← hrn]⟩
    rw [hra] at hrd
    generalize ps[tu[k].toNat] = row at *
    obtain ⟨s', hs'⟩ : ∃ s', runS2 algo ps tu (k + 1) = s' := ⟨_, rfl⟩
    rw [hs'] at hsk
    have dH : ∀ p' : Sp, p'.h = hd → s'.pe = s.pe.set tu[k].toNat p' → hzL s' = hzL s := fun p' e1 e2 => by
      unfold hzL; rw [e2]; exact mapS_same q1 (by rw [hpp, e1])
    have dK : ∀ p' : Sp, p'.k = pk → s'.pe = s.pe.set tu[k].toNat p' → kL s' = kL s := fun p' e1 e2 => by
      unfold kL; rw [e2]; exact mapS_same q1 (by rw [hpp, e1])
    have dO : ∀ p' : Sp, p'.op = op → s'.pe = s.pe.set tu[k].toNat p' → opL s' = opL s := fun p' e1 e2 => by
      unfold opL; rw [e2]; exact mapS_same q1 (by rw [hpp, e1])
    have dR : ∀ p' : Sp, p'.res = pr → s'.pe = s.pe.set tu[k].toNat p' → reL s' = reL s := fun p' e1 e2 => by
      unfold reL; rw [e2]; exact mapS_same q1 (by rw [hpp, e1])
    have hmo := hok.m
    have hmn := hok.n
    have hma := hok.a
    have hml := hok.l
    have hme := hok.e
    have hmv := hmo.len
    have hk300 : k ≤ 300 := by omega
    by_cases hp0 : op = 0
    · subst hp0
      rw [if_pos rfl] at hsk
      have eM : s'.m = s.m.more row[pk].arg := by rw [hsk]; rfl
      have eA : s'.evs = s.evs ++ [⟨tu[k], 0, row[pk].kind, row[pk].arg⟩] := by rw [hsk]; dsimp only; rw [hzz]
      have ePe : s'.pe = s.pe.set tu[k].toNat ⟨pk, 1, ⟨0, 0, 0, 0, s.m.val.length⟩, pr⟩ := by rw [hsk]
      have n0 : hzL s' = (hzL s).set tu[k].toNat ⟨0, 0, 0, 0, (s.m.val.length : Nat)⟩ := by unfold hzL; rw [ePe, List.map_set]; rfl
      have n1 := dK _ rfl ePe
      have n2 : opL s' = (opL s).set tu[k].toNat 1 := by unfold opL; rw [ePe, List.map_set]; rfl
      have n3 := dR _ rfl ePe
      clear hsk dH dK dO dR l4 l5
      have hnode := fun (C : Ctx) (R : List Ent) (w : World) (hw : Mem C w ([memB ⟨gm, gv, cv, gn, cn, gh, hs.length⟩ s.m, entOwn intEnc 1 3 (some ⟨gv, 0, none⟩) cv s.m.val, entOwn natEnc 1 3 (some ⟨gn, 0, none⟩) cn s.m.nxt] ++ R)) => node_any ⟨gm, gv, cv, gn, cn, gh, hs.length⟩ s.m row[pk].arg 0 w (by omega) (by omega) (hw.self 0)
      repeat' (first | ((first | with_reducible (first | apply TL_q | apply TD_q0 | apply TD_q1 | apply TD_q2 | apply TD_q3) | ((with_reducible (first | apply TD_q0y | apply TD_q1y)); exact rfl; exact rfl; (with_reducible exact rfl))); exact QSarm_StB; exact rfl) | ((with_reducible (first | apply TD_e2z | apply TD_e3z | apply TL_e | apply TD_e2 | apply TD_e3)); exact ESarm_StB; (first | exact rfl | exact ⟨rfl, rfl, rfl⟩); (first | (rintro _ _ ⟨rfl, rfl⟩) | (rintro _ _ ⟨g, rfl, rfl⟩) | (rintro _ _ ⟨A', c', rfl, rfl⟩)); (try refine ⟨SUB, ?_⟩)) | (refine GG ?_) | (refine GE ?_; (first | (rintro _ _ ⟨rfl, rfl⟩) | (rintro _ _ ⟨g, rfl, rfl⟩) | (rintro _ _ ⟨A', c', rfl, rfl⟩)); (try refine ⟨SUB, ?_⟩)) | ((refine GO2 ?_ ?_) <;> intro h <;> (try (repeat (first | with_reducible (replace h := of_decide_eq_true h) | with_reducible (replace h := of_decide_eq_false h) | with_reducible (replace h := bnt h) | with_reducible (replace h := bnf h) | with_reducible (replace h := Int.not_lt.mp h) | with_reducible (replace h := Int.not_le.mp h) | with_reducible (replace h := band_dec h) | with_reducible (replace h := band_decF h) | with_reducible (replace h := bor_dec h) | with_reducible (replace h := bor_decF h)))) <;> (try (exfalso; first | contradiction | omega))) | (refine GOF ?_ ?_) | ((with_reducible apply T_draw (id := 10) 1000 (OT.seq [(0, 0), (0, 1), (0, 2), (0, 4), (0, 5), (0, 6), (1, 3), (1, 7), (0, 8), (0, 9)] .nil)); kernel_rfl; exact rfl; kernel_rfl; (repeat (first | with_reducible exact Blind.body | with_reducible apply Blind.seq | with_reducible apply Blind.block))) | ((with_reducible apply T_draw (id := 11) 11 (OT.seq [(0, 0), (0, 1), (0, 2), (0, 4), (0, 5), (0, 6), (1, 3), (1, 7), (0, 8), (1, 9), (2, 10), (3, 11)] .nil)); kernel_rfl; exact rfl; kernel_rfl; (repeat (first | with_reducible exact Blind.body | with_reducible apply Blind.seq | with_reducible apply Blind.block))) | ((with_reducible apply T_draw (id := 21) 6 (OT.seq [(0, 0), (0, 1), (0, 3), (0, 4), (0, 5), (1, 2), (3, 6), (0, 7), (0, 8), (0, 9), (0, 10), (0, 11)] .nil)); kernel_rfl; exact rfl; kernel_rfl; (repeat (first | with_reducible exact Blind.body | with_reducible apply Blind.seq | with_reducible apply Blind.block))) | ((with_reducible apply T_draw (id := 25) 1000 (OT.seq [(0, 0), (0, 1), (0, 3), (1, 2), (0, 4)] .nil)); kernel_rfl; exact rfl; kernel_rfl; (repeat (first | with_reducible exact Blind.body | with_reducible apply Blind.seq | with_reducible apply Blind.block))) | ((with_reducible (first | apply TD_e2z | apply TD_e3z | apply TL_e | apply TD_e2 | apply TD_e3)); ((with_reducible apply ES_callX (f := 37) (X := Nat × Nat × Nat × Nat) (S1 := [memB ⟨gm, gv, cv, gn, cn, gh, hs.length⟩ s.m, entOwn intEnc 1 3 (some ⟨gv, 0, none⟩) cv s.m.val, entOwn natEnc 1 3 (some ⟨gn, 0, none⟩) cn s.m.nxt]) (fun _ => .int .i64 (s.m.val.length : Nat)) (fun y => [memB ⟨gm, y.1, y.2.1, y.2.2.1, y.2.2.2, gh, hs.length⟩ (s.m.more row[pk].arg), entOwn intEnc 1 3 (some ⟨y.1, 0, none⟩) y.2.1 (s.m.val ++ [row[pk].arg]), entOwn natEnc 1 3 (some ⟨y.2.2.1, 0, none⟩) y.2.2.2 (s.m.nxt ++ [0])])); exact rfl; ((repeat (first | exact Pull.nil _ | (apply Pull.cons; (repeat (first | with_reducible exact Pick.here _ _ | with_reducible apply Pick.there)))))); (intro x; (try dsimp only); repeat (first | exact AppL.nil _ | apply AppL.cons)); (intro w hw; exact hnode _ _ w hw); exact rfl); (first | exact rfl | exact ⟨rfl, rfl, rfl⟩); (rintro _ _ ⟨⟨V1, V2, V3, V4⟩, rfl, rfl⟩); (try refine ⟨SUB, ?_⟩)) | ((with_reducible (first | apply TD_e2z | apply TD_e3z | apply TL_e | apply TD_e2 | apply TD_e3)); ((with_reducible apply ES_append1 (enc := Ev.enc) (xx := (⟨tu[k], 0, row[pk].kind, row[pk].arg⟩ : Ev))); exact rfl; exact rfl; (repeat (first | with_reducible exact List.mem_cons_self | with_reducible apply List.mem_cons_of_mem)); exact rfl; exact fun _ => rfl; exact fun _ => rfl; (intro A' c'; first | ((repeat (first | with_reducible exact Upd.here _ _ _ | with_reducible apply Upd.there)); done) | (repeat (first | exact Upd.here _ _ _ | apply Upd.there))); (omega); decide; exact rfl); (first | exact rfl | exact ⟨rfl, rfl, rfl⟩); (rintro _ _ ⟨A', c', rfl, rfl⟩); (try refine ⟨SUB, ?_⟩)) | fail)
      all_goals first | (exfalso; omega) | skip
      apply At_rounds (k + 1, (V1, V2, V3, V4), (A', c'))
      case hE => dsimp only; rw [hs', eA]; (repeat (first | exact SubE.nil _ | refine SubE.cons rfl ?_))
      case hS =>
        intro w' hw
        dsimp only
        rw [hs', eA, eM, n0, n1, n2, n3]
        show Mem _ w' [memB _ (s.m.more row[pk].arg), entOwn intEnc 1 _ _ _ (s.m.val ++ [row[pk].arg]), entOwn natEnc 1 _ _ _ (s.m.nxt ++ [0]), _, _, _, _, _]
        exact hw.sel (by (repeat (first | exact Sel.nil _ | (apply Sel.cons; (repeat (first | with_reducible exact Pick.here _ _ | with_reducible apply Pick.there))))))
      case hμ => (try dsimp only); omega
      case hp => (try dsimp only); omega
    rw [if_neg hp0] at hsk
    by_cases hp1 : op = 1
    · subst hp1
      rw [if_pos rfl] at hsk
      have hh := l4 rfl
      have hx := l5 rfl
      have hstep := fun (C : Ctx) (R : List Ent) (w : World) (hw : Mem C w (memS ⟨gm, gv, cv, gn, cn, gh, hs.length⟩ s.m (hzL s) ++ R)) => stepped2_any ⟨gm, gv, cv, gn, cn, gh, hs.length⟩ algo s.m (hzL s) tu[k].toNat 0 hd row[pk].kind w (by omega) eH hmo (by omega) (by omega) (hw.self 0) hab.2 hh (fun e => by have := hx e; omega)
      unfold SdPost at hstep
      dsimp only [memS] at hstep
      obtain ⟨⟨RM, RH, RO⟩, hR⟩ : ∃ r, stepS algo row[pk].kind s.m hd = r := ⟨_, rfl⟩
      rw [hR] at hsk hstep
      dsimp only at hsk hstep
      have eM : s'.m = RM := by rw [hsk]
      have eA : s'.evs = s.evs := by rw [hsk]
      cases RO with
      | none =>
        have ePe : s'.pe = s.pe.set tu[k].toNat ⟨pk, 1, RH, pr⟩ := by rw [hsk]
        have n0 : hzL s' = (hzL s).set tu[k].toNat (hz RH) := by unfold hzL; rw [ePe, List.map_set]
        have n1 := dK _ rfl ePe
        have n2 := dO _ rfl ePe
        have n3 := dR _ rfl ePe
        clear hsk dH dK dO dR l4 l5 hR hh hx
        repeat' (first | ((first | with_reducible (first | apply TL_q | apply TD_q0 | apply TD_q1 | apply TD_q2 | apply TD_q3) | ((with_reducible (first | apply TD_q0y | apply TD_q1y)); exact rfl; exact rfl; (with_reducible exact rfl))); exact QSarm_StB; exact rfl) | ((with_reducible (first | apply TD_e2z | apply TD_e3z | apply TL_e | apply TD_e2 | apply TD_e3)); exact ESarm_StB; (first | exact rfl | exact ⟨rfl, rfl, rfl⟩); (first | (rintro _ _ ⟨rfl, rfl⟩) | (rintro _ _ ⟨g, rfl, rfl⟩) | (rintro _ _ ⟨A', c', rfl, rfl⟩)); (try refine ⟨SUB, ?_⟩)) | (refine GG ?_) | (refine GE ?_; (first | (rintro _ _ ⟨rfl, rfl⟩) | (rintro _ _ ⟨g, rfl, rfl⟩) | (rintro _ _ ⟨A', c', rfl, rfl⟩)); (try refine ⟨SUB, ?_⟩)) | ((refine GO2 ?_ ?_) <;> intro h <;> (try (repeat (first | with_reducible (replace h := of_decide_eq_true h) | with_reducible (replace h := of_decide_eq_false h) | with_reducible (replace h := bnt h) | with_reducible (replace h := bnf h) | with_reducible (replace h := Int.not_lt.mp h) | with_reducible (replace h := Int.not_le.mp h) | with_reducible (replace h := band_dec h) | with_reducible (replace h := band_decF h) | with_reducible (replace h := bor_dec h) | with_reducible (replace h := bor_decF h)))) <;> (try (exfalso; first | contradiction | omega))) | (refine GOF ?_ ?_) | ((with_reducible apply T_draw (id := 10) 1000 (OT.seq [(0, 0), (0, 1), (0, 2), (0, 4), (0, 5), (0, 6), (1, 3), (1, 7), (0, 8), (0, 9)] .nil)); kernel_rfl; exact rfl; kernel_rfl; (repeat (first | with_reducible exact Blind.body | with_reducible apply Blind.seq | with_reducible apply Blind.block))) | ((with_reducible apply T_draw (id := 11) 11 (OT.seq [(0, 0), (0, 1), (0, 2), (0, 4), (0, 5), (0, 6), (1, 3), (1, 7), (0, 8), (1, 9), (2, 10), (3, 11)] .nil)); kernel_rfl; exact rfl; kernel_rfl; (repeat (first | with_reducible exact Blind.body | with_reducible apply Blind.seq | with_reducible apply Blind.block))) | ((with_reducible apply T_draw (id := 21) 6 (OT.seq [(0, 0), (0, 1), (0, 3), (0, 4), (0, 5), (1, 2), (3, 6), (0, 7), (0, 8), (0, 9), (0, 10), (0, 11)] .nil)); kernel_rfl; exact rfl; kernel_rfl; (repeat (first | with_reducible exact Blind.body | with_reducible apply Blind.seq | with_reducible apply Blind.block))) | ((with_reducible apply T_draw (id := 25) 1000 (OT.seq [(0, 0), (0, 1), (0, 3), (1, 2), (0, 4)] .nil)); kernel_rfl; exact rfl; kernel_rfl; (repeat (first | with_reducible exact Blind.body | with_reducible apply Blind.seq | with_reducible apply Blind.block))) | ((with_reducible (first | apply TD_e2z | apply TD_e3z | apply TL_e | apply TD_e2 | apply TD_e3)); ((with_reducible apply ES_callMp (f := 38) (S1 := [memB ⟨gm, gv, cv, gn, cn, gh, hs.length⟩ s.m, entOwn intEnc 1 3 (some ⟨gv, 0, none⟩) cv s.m.val, entOwn natEnc 1 3 (some ⟨gn, 0, none⟩) cn s.m.nxt, entOwn Hz.enc 5 101 (some ⟨gh, 0, none⟩) hs.length (hzL s)]) (S1' := [memB ⟨gm, gv, cv, gn, cn, gh, hs.length⟩ RM, entOwn intEnc 1 3 (some ⟨gv, 0, none⟩) cv RM.val, entOwn natEnc 1 3 (some ⟨gn, 0, none⟩) cn RM.nxt, entOwn Hz.enc 5 101 (some ⟨gh, 0, none⟩) hs.length ((hzL s).set tu[k].toNat (hz RH))]) (v := (.tuple #[.int .i64 0, .bool false]))); exact rfl; ((repeat (first | exact Pull.nil _ | (apply Pull.cons; (repeat (first | with_reducible exact Pick.here _ _ | with_reducible apply Pick.there)))))); (repeat (first | exact AppL.nil _ | apply AppL.cons)); (intro w hw; exact hstep _ _ w hw); exact rfl); (first | exact rfl | exact ⟨rfl, rfl, rfl⟩); (rintro _ _ ⟨rfl, rfl⟩); (try refine ⟨SUB, ?_⟩)) | fail)
        all_goals first | (exfalso; omega) | skip
        (apply At_rounds (k + 1, (gv, cv, gn, cn), (AE, cE)); (case hE => (dsimp only; rw [hs', eA]; (repeat (first | exact SubE.nil _ | refine SubE.cons rfl ?_)))); (case hS => (dsimp only [memB]; rw [hs', eA, eM, n0, n1, n2, n3]; exact fun w' hw => hw.sel (by (repeat (first | exact Sel.nil _ | (apply Sel.cons; (repeat (first | with_reducible exact Pick.here _ _ | with_reducible apply Pick.there)))))))); (case hμ => ((try dsimp only); omega)); (case hp => ((try dsimp only); omega)))
      | some v =>
        have ePe : s'.pe = s.pe.set tu[k].toNat ⟨pk, 2, RH, v⟩ := by rw [hsk]
        have n0 : hzL s' = (hzL s).set tu[k].toNat (hz RH) := by unfold hzL; rw [ePe, List.map_set]
        have n1 := dK _ rfl ePe
        have n2 : opL s' = (opL s).set tu[k].toNat 2 := by unfold opL; rw [ePe, List.map_set]; rfl
        have n3 : reL s' = (reL s).set tu[k].toNat v := by unfold reL; rw [ePe, List.map_set]
        clear hsk dH dK dO dR l4 l5 hR hh hx
        repeat' (first | ((first | with_reducible (first | apply TL_q | apply TD_q0 | apply TD_q1 | apply TD_q2 | apply TD_q3) | ((with_reducible (first | apply TD_q0y | apply TD_q1y)); exact rfl; exact rfl; (with_reducible exact rfl))); exact QSarm_StB; exact rfl) | ((with_reducible (first | apply TD_e2z | apply TD_e3z | apply TL_e | apply TD_e2 | apply TD_e3)); exact ESarm_StB; (first | exact rfl | exact ⟨rfl, rfl, rfl⟩); (first | (rintro _ _ ⟨rfl, rfl⟩) | (rintro _ _ ⟨g, rfl, rfl⟩) | (rintro _ _ ⟨A', c', rfl, rfl⟩)); (try refine ⟨SUB, ?_⟩)) | (refine GG ?_) | (refine GE ?_; (first | (rintro _ _ ⟨rfl, rfl⟩) | (rintro _ _ ⟨g, rfl, rfl⟩) | (rintro _ _ ⟨A', c', rfl, rfl⟩)); (try refine ⟨SUB, ?_⟩)) | ((refine GO2 ?_ ?_) <;> intro h <;> (try (repeat (first | with_reducible (replace h := of_decide_eq_true h) | with_reducible (replace h := of_decide_eq_false h) | with_reducible (replace h := bnt h) | with_reducible (replace h := bnf h) | with_reducible (replace h := Int.not_lt.mp h) | with_reducible (replace h := Int.not_le.mp h) | with_reducible (replace h := band_dec h) | with_reducible (replace h := band_decF h) | with_reducible (replace h := bor_dec h) | with_reducible (replace h := bor_decF h)))) <;> (try (exfalso; first | contradiction | omega))) | (refine GOF ?_ ?_) | ((with_reducible apply T_draw (id := 10) 1000 (OT.seq [(0, 0), (0, 1), (0, 2), (0, 4), (0, 5), (0, 6), (1, 3), (1, 7), (0, 8), (0, 9)] .nil)); kernel_rfl; exact rfl; kernel_rfl; (repeat (first | with_reducible exact Blind.body | with_reducible apply Blind.seq | with_reducible apply Blind.block))) | ((with_reducible apply T_draw (id := 11) 11 (OT.seq [(0, 0), (0, 1), (0, 2), (0, 4), (0, 5), (0, 6), (1, 3), (1, 7), (0, 8), (1, 9), (2, 10), (3, 11)] .nil)); kernel_rfl; exact rfl; kernel_rfl; (repeat (first | with_reducible exact Blind.body | with_reducible apply Blind.seq | with_reducible apply Blind.block))) | ((with_reducible apply T_draw (id := 21) 6 (OT.seq [(0, 0), (0, 1), (0, 3), (0, 4), (0, 5), (1, 2), (3, 6), (0, 7), (0, 8), (0, 9), (0, 10), (0, 11)] .nil)); kernel_rfl; exact rfl; kernel_rfl; (repeat (first | with_reducible exact Blind.body | with_reducible apply Blind.seq | with_reducible apply Blind.block))) | ((with_reducible apply T_draw (id := 25) 1000 (OT.seq [(0, 0), (0, 1), (0, 3), (1, 2), (0, 4)] .nil)); kernel_rfl; exact rfl; kernel_rfl; (repeat (first | with_reducible exact Blind.body | with_reducible apply Blind.seq | with_reducible apply Blind.block))) | ((with_reducible (first | apply TD_e2z | apply TD_e3z | apply TL_e | apply TD_e2 | apply TD_e3)); ((with_reducible apply ES_callMp (f := 38) (S1 := [memB ⟨gm, gv, cv, gn, cn, gh, hs.length⟩ s.m, entOwn intEnc 1 3 (some ⟨gv, 0, none⟩) cv s.m.val, entOwn natEnc 1 3 (some ⟨gn, 0, none⟩) cn s.m.nxt, entOwn Hz.enc 5 101 (some ⟨gh, 0, none⟩) hs.length (hzL s)]) (S1' := [memB ⟨gm, gv, cv, gn, cn, gh, hs.length⟩ RM, entOwn intEnc 1 3 (some ⟨gv, 0, none⟩) cv RM.val, entOwn natEnc 1 3 (some ⟨gn, 0, none⟩) cn RM.nxt, entOwn Hz.enc 5 101 (some ⟨gh, 0, none⟩) hs.length ((hzL s).set tu[k].toNat (hz RH))]) (v := (.tuple #[.int .i64 v, .bool true]))); exact rfl; ((repeat (first | exact Pull.nil _ | (apply Pull.cons; (repeat (first | with_reducible exact Pick.here _ _ | with_reducible apply Pick.there)))))); (repeat (first | exact AppL.nil _ | apply AppL.cons)); (intro w hw; exact hstep _ _ w hw); exact rfl); (first | exact rfl | exact ⟨rfl, rfl, rfl⟩); (rintro _ _ ⟨rfl, rfl⟩); (try refine ⟨SUB, ?_⟩)) | fail)
        all_goals first | (exfalso; omega) | skip
        (apply At_rounds (k + 1, (gv, cv, gn, cn), (AE, cE)); (case hE => (dsimp only; rw [hs', eA]; (repeat (first | exact SubE.nil _ | refine SubE.cons rfl ?_)))); (case hS => (dsimp only [memB]; rw [hs', eA, eM, n0, n1, n2, n3]; exact fun w' hw => hw.sel (by (repeat (first | exact Sel.nil _ | (apply Sel.cons; (repeat (first | with_reducible exact Pick.here _ _ | with_reducible apply Pick.there)))))))); (case hμ => ((try dsimp only); omega)); (case hp => ((try dsimp only); omega)))
    rw [if_neg hp1] at hsk
    obtain rfl : op = 2 := by omega
    have eM : s'.m = s.m := by rw [hsk]
    have eA : s'.evs = s.evs ++ [⟨tu[k], 0, 0, pr⟩] := by rw [hsk]; dsimp only; rw [hzz]
    have ePe : s'.pe = s.pe.set tu[k].toNat ⟨pk + 1, 0, hd, pr⟩ := by rw [hsk]
    have n0 := dH _ rfl ePe
    have n1 : kL s' = (kL s).set tu[k].toNat (((pk : Nat) : Int) + 1) := by unfold kL; rw [ePe, List.map_set]; rfl
    have n2 : opL s' = (opL s).set tu[k].toNat 0 := by unfold opL; rw [ePe, List.map_set]; rfl
    have n3 := dR _ rfl ePe
    clear hsk dH dK dO dR l4 l5
    repeat' (first | ((first | with_reducible (first | apply TL_q | apply TD_q0 | apply TD_q1 | apply TD_q2 | apply TD_q3) | ((with_reducible (first | apply TD_q0y | apply TD_q1y)); exact rfl; exact rfl; (with_reducible exact rfl))); exact QSarm_StB; exact rfl) | ((with_reducible (first | apply TD_e2z | apply TD_e3z | apply TL_e | apply TD_e2 | apply TD_e3)); exact ESarm_StB; (first | exact rfl | exact ⟨rfl, rfl, rfl⟩); (first | (rintro _ _ ⟨rfl, rfl⟩) | (rintro _ _ ⟨g, rfl, rfl⟩) | (rintro _ _ ⟨A', c', rfl, rfl⟩)); (try refine ⟨SUB, ?_⟩)) | (refine GG ?_) | (refine GE ?_; (first | (rintro _ _ ⟨rfl, rfl⟩) | (rintro _ _ ⟨g, rfl, rfl⟩) | (rintro _ _ ⟨A', c', rfl, rfl⟩)); (try refine ⟨SUB, ?_⟩)) | ((refine GO2 ?_ ?_) <;> intro h <;> (try (repeat (first | with_reducible (replace h := of_decide_eq_true h) | with_reducible (replace h := of_decide_eq_false h) | with_reducible (replace h := bnt h) | with_reducible (replace h := bnf h) | with_reducible (replace h := Int.not_lt.mp h) | with_reducible (replace h := Int.not_le.mp h) | with_reducible (replace h := band_dec h) | with_reducible (replace h := band_decF h) | with_reducible (replace h := bor_dec h) | with_reducible (replace h := bor_decF h)))) <;> (try (exfalso; first | contradiction | omega))) | (refine GOF ?_ ?_) | ((with_reducible apply T_draw (id := 10) 1000 (OT.seq [(0, 0), (0, 1), (0, 2), (0, 4), (0, 5), (0, 6), (1, 3), (1, 7), (0, 8), (0, 9)] .nil)); kernel_rfl; exact rfl; kernel_rfl; (repeat (first | with_reducible exact Blind.body | with_reducible apply Blind.seq | with_reducible apply Blind.block))) | ((with_reducible apply T_draw (id := 11) 11 (OT.seq [(0, 0), (0, 1), (0, 2), (0, 4), (0, 5), (0, 6), (1, 3), (1, 7), (0, 8), (1, 9), (2, 10), (3, 11)] .nil)); kernel_rfl; exact rfl; kernel_rfl; (repeat (first | with_reducible exact Blind.body | with_reducible apply Blind.seq | with_reducible apply Blind.block))) | ((with_reducible apply T_draw (id := 21) 6 (OT.seq [(0, 0), (0, 1), (0, 3), (0, 4), (0, 5), (1, 2), (3, 6), (0, 7), (0, 8), (0, 9), (0, 10), (0, 11)] .nil)); kernel_rfl; exact rfl; kernel_rfl; (repeat (first | with_reducible exact Blind.body | with_reducible apply Blind.seq | with_reducible apply Blind.block))) | ((with_reducible apply T_draw (id := 25) 1000 (OT.seq [(0, 0), (0, 1), (0, 3), (1, 2), (0, 4)] .nil)); kernel_rfl; exact rfl; kernel_rfl; (repeat (first | with_reducible exact Blind.body | with_reducible apply Blind.seq | with_reducible apply Blind.block))) | ((with_reducible (first | apply TD_e2z | apply TD_e3z | apply TL_e | apply TD_e2 | apply TD_e3)); ((with_reducible apply ES_append1 (enc := Ev.enc) (xx := (⟨tu[k], 0, 0, pr⟩ : Ev))); exact rfl; exact rfl; (repeat (first | with_reducible exact List.mem_cons_self | with_reducible apply List.mem_cons_of_mem)); exact rfl; exact fun _ => rfl; exact fun _ => rfl; (intro A' c'; first | ((repeat (first | with_reducible exact Upd.here _ _ _ | with_reducible apply Upd.there)); done) | (repeat (first | exact Upd.here _ _ _ | apply Upd.there))); (omega); decide; exact rfl); (first | exact rfl | exact ⟨rfl, rfl, rfl⟩); (rintro _ _ ⟨A', c', rfl, rfl⟩); (try refine ⟨SUB, ?_⟩)) | fail)
    all_goals first | (exfalso; omega) | skip
    (apply At_rounds (k + 1, (gv, cv, gn, cn), (A', c')); (case hE => (dsimp only; rw [hs', eA]; (repeat (first | exact SubE.nil _ | refine SubE.cons rfl ?_)))); (case hS => (dsimp only [memB]; rw [hs', eA, eM, n0, n1, n2, n3]; exact fun w' hw => hw.sel (by (repeat (first | exact Sel.nil _ | (apply Sel.cons; (repeat (first | with_reducible exact Pick.here _ _ | with_reducible apply Pick.there)))))))); (case hμ => ((try dsimp only); omega)); (case hp => ((try dsimp only); omega)))
  · obtain rfl : k = tu.length := by omega
    repeat' (first | ((first | with_reducible (first | apply TL_q | apply TD_q0 | apply TD_q1 | apply TD_q2 | apply TD_q3) | ((with_reducible (first | apply TD_q0y | apply TD_q1y)); exact rfl; exact rfl; (with_reducible exact rfl))); exact QSarm_StB; exact rfl) | ((with_reducible (first | apply TD_e2z | apply TD_e3z | apply TL_e | apply TD_e2 | apply TD_e3)); exact ESarm_StB; (first | exact rfl | exact ⟨rfl, rfl, rfl⟩); (first | (rintro _ _ ⟨rfl, rfl⟩) | (rintro _ _ ⟨g, rfl, rfl⟩) | (rintro _ _ ⟨A', c', rfl, rfl⟩)); (try refine ⟨SUB, ?_⟩)) | (refine GG ?_) | (refine GE ?_; (first | (rintro _ _ ⟨rfl, rfl⟩) | (rintro _ _ ⟨g, rfl, rfl⟩) | (rintro _ _ ⟨A', c', rfl, rfl⟩)); (try refine ⟨SUB, ?_⟩)) | ((refine GO2 ?_ ?_) <;> intro h <;> (try (repeat (first | with_reducible (replace h := of_decide_eq_true h) | with_reducible (replace h := of_decide_eq_false h) | with_reducible (replace h := bnt h) | with_reducible (replace h := bnf h) | with_reducible (replace h := Int.not_lt.mp h) | with_reducible (replace h := Int.not_le.mp h) | with_reducible (replace h := band_dec h) | with_reducible (replace h := band_decF h) | with_reducible (replace h := bor_dec h) | with_reducible (replace h := bor_decF h)))) <;> (try (exfalso; first | contradiction | omega))) | (refine GOF ?_ ?_) | ((with_reducible apply T_draw (id := 10) 1000 (OT.seq [(0, 0), (0, 1), (0, 2), (0, 4), (0, 5), (0, 6), (1, 3), (1, 7), (0, 8), (0, 9)] .nil)); kernel_rfl; exact rfl; kernel_rfl; (repeat (first | with_reducible exact Blind.body | with_reducible apply Blind.seq | with_reducible apply Blind.block))) | ((with_reducible apply T_draw (id := 11) 11 (OT.seq [(0, 0), (0, 1), (0, 2), (0, 4), (0, 5), (0, 6), (1, 3), (1, 7), (0, 8), (1, 9), (2, 10), (3, 11)] .nil)); kernel_rfl; exact rfl; kernel_rfl; (repeat (first | with_reducible exact Blind.body | with_reducible apply Blind.seq | with_reducible apply Blind.block))) | ((with_reducible apply T_draw (id := 21) 6 (OT.seq [(0, 0), (0, 1), (0, 3), (0, 4), (0, 5), (1, 2), (3, 6), (0, 7), (0, 8), (0, 9), (0, 10), (0, 11)] .nil)); kernel_rfl; exact rfl; kernel_rfl; (repeat (first | with_reducible exact Blind.body | with_reducible apply Blind.seq | with_reducible apply Blind.block))) | ((with_reducible apply T_draw (id := 25) 1000 (OT.seq [(0, 0), (0, 1), (0, 3), (1, 2), (0, 4)] .nil)); kernel_rfl; exact rfl; kernel_rfl; (repeat (first | with_reducible exact Blind.body | with_reducible apply Blind.seq | with_reducible apply Blind.block))) | fail)
    (refine At_ret Try.results12 rfl (fun w' hw => ?_))
    exact ⟨(AE, cE), rfl, (hw.anyN 0).sel (by (repeat (first | exact Sel.nil _ | (apply Sel.cons; (repeat (first | with_reducible exact Pick.here _ _ | with_reducible apply Pick.there))))))⟩
end
end Go.Proofs.Ytnflkmjfhbfekaa

namespace Go.Proofs.Ytnflkmjfhbfekaa
open Go.RowKit
set_option maxRecDepth 100000 in
theorem aType_any (algo : Int) (w : World) : Calls Try.prog 8 #[.int .i64 algo] w fun e w' => e = .returned (.int .i64 (algT algo)) ∧ Below w.heap.size w w' := by
  have hc : algo = 1 ∨ algo = 2 ∨ algo = 3 ∨ algo = 4 ∨ (¬ algo = 1 ∧ ¬ algo = 2 ∧ ¬ algo = 3 ∧ ¬ algo = 4 ∧ algT algo = 0) := by
    unfold algT
    by_cases h1 : algo = 1
    · exact .inl h1
    by_cases h2 : algo = 2
    · exact .inr (.inl h2)
    by_cases h3 : algo = 3
    · exact .inr (.inr (.inl h3))
    by_cases h4 : algo = 4
    · exact .inr (.inr (.inr (.inl h4)))
    · exact .inr (.inr (.inr (.inr ⟨h1, h2, h3, h4, by rw [if_neg (by rintro (h | h); exact h1 h; exact h2 h), if_neg h3, if_neg h4]⟩)))
  refine calls_T (S := []) [] Try.func8 rfl Try.ntmps8 (by simp) (Mem.nil _) ?_
  rcases hc with rfl | rfl | rfl | rfl | ⟨h1, h2, h3, h4, h5⟩
  all_goals
    repeat' (first | (refine GO ?_) | (refine GOE ?_; (first | (rintro _ _ ⟨rfl, rfl⟩) | (rintro _ _ ⟨g, rfl, rfl⟩) | (rintro _ _ ⟨A', c', rfl, rfl⟩))) | ((refine GO2 ?_ ?_) <;> intro h <;> (try (repeat (first | with_reducible (replace h := of_decide_eq_true h) | with_reducible (replace h := of_decide_eq_false h) | with_reducible (replace h := bnt h) | with_reducible (replace h := bnf h) | with_reducible (replace h := Int.not_lt.mp h) | with_reducible (replace h := Int.not_le.mp h) | with_reducible (replace h := band_dec h) | with_reducible (replace h := band_decF h) | with_reducible (replace h := bor_dec h) | with_reducible (replace h := bor_decF h)))) <;> (try (exfalso; first | contradiction | omega))) | fail)
    all_goals first
      | (exfalso; omega)
      | ((refine At_ret Try.results8 rfl (fun w' hw => ?_)); exact ⟨rfl, hw.below0 rfl⟩)
      | ((refine At_ret Try.results8 rfl (fun w' hw => ?_)); rw [h5]; exact ⟨rfl, hw.below0 rfl⟩)
end Go.Proofs.Ytnflkmjfhbfekaa

namespace Go.Proofs.Ytnflkmjfhbfekaa
theorem upd_upd (f : Nat → Nat) (i a b : Nat) : upd (upd f i a) i b = upd f i b := by
  funext j; by_cases h : j = i <;> simp [upd, h]
theorem upd_same (f : Nat → Nat) (i a : Nat) : upd f i a i = a := by simp [upd]
theorem pow_lt_16 {m : Nat} (h : m < 16) : 2 ^ m < 65536 := by
  have := Nat.pow_lt_pow_right (a := 2) (by omega) h
  simpa using this
theorem bitsTo_lt_16 (p : Nat → Bool) {m : Nat} (h : m ≤ 16) : bitsTo p m < 65536 := by
  have h1 := bitsTo_lt p m
  have h2 := Nat.pow_le_pow_right (n := 2) (by omega) h
  have : (2 : Nat) ^ 16 = 65536 := by decide
  omega
theorem or_pow (p : Nat → Bool) (m : Nat) : bitsTo p m ||| 2 ^ m = bitsTo p m + 2 ^ m := by
  have := Nat.two_pow_add_eq_or_of_lt (bitsTo_lt p m) 1
  simp only [Nat.mul_one] at this
  rw [Nat.or_comm, ← this, Nat.add_comm]
theorem wrap_pow {m : Nat} (h : m < 16) : IntKind.u16.wrap (2 ^ m) = ((2 ^ m : Nat) : Int) := by
  have := pow_lt_16 h
  have e : ((2 : Int) ^ m) = ((2 ^ m : Nat) : Int) := by simp
  rw [IntKind.wrap_u16, e]
  generalize 2 ^ m = x at *
  omega
theorem or_bit (p : Nat → Bool) {m : Nat} (h : m < 16) (hp : p m = true) : bits BinOp.or IntKind.u16 (bitsTo p m : Nat) (IntKind.u16.wrap (2 ^ m)) = ((bitsTo p (m + 1) : Nat) : Int) := by
  rw [wrap_pow h, u16_or_nat _ _ (bitsTo_lt_16 p (by omega)) (pow_lt_16 h), or_pow]
  simp [bitsTo, hp]
theorem add_bit (p : Nat → Bool) {m : Nat} (h : m < 15) (hp : p m = true) : IntKind.u16.wrap ((bitsTo p m : Nat) + IntKind.u16.wrap (2 ^ m)) = ((bitsTo p (m + 1) : Nat) : Int) := by
  have := bitsTo_lt_16 p (m := m + 1) (by omega)
  rw [wrap_pow (by omega), IntKind.wrap_u16]
  simp only [bitsTo, hp, if_true] at this ⊢
  generalize 2 ^ m = x at *
  generalize bitsTo p m = y at *
  omega


end Go.Proofs.Ytnflkmjfhbfekaa

namespace Go.Proofs.Ytnflkmjfhbfekaa

def orP (P Q : Nat → Nat → Bool) (k m : Nat) (i j : Nat) : Bool := P i j || (Q i j && (decide (i < k) || (decide (i = k) && decide (j < m))))
def relN (R : Nat → Nat → Bool) (n : Nat) : Nat → Nat := fun i => if i < n then bitsTo (R i) n else 0
theorem bitsTo_same {p q : Nat → Bool} : ∀ {n : Nat}, (∀ j, j < n → p j = q j) → bitsTo p n = bitsTo q n
  | 0, _ => rfl
  | n + 1, h => by rw [bitsTo, bitsTo, bitsTo_same (fun j hj => h j (by omega)), h n (by omega)]
theorem bitsTo_off {p : Nat → Bool} : ∀ {n : Nat}, (∀ j, j < n → p j = false) → bitsTo p n = 0
  | 0, _ => rfl
  | n + 1, h => by rw [bitsTo, bitsTo_off (fun j hj => h j (by omega)), h n (by omega)]; rfl
theorem relN_congr {R R' : Nat → Nat → Bool} {n : Nat} (h : ∀ i j, i < n → j < n → R i j = R' i j) : relN R n = relN R' n := by
  funext i
  unfold relN
  by_cases hi : i < n
  · rw [if_pos hi, if_pos hi]; exact bitsTo_same fun j hj => h i j hi hj
  · rw [if_neg hi, if_neg hi]
theorem relN_0 (n : Nat) : relN (fun _ _ => false) n = fun _ => 0 := by
  funext i
  unfold relN
  split
  · exact bitsTo_off fun _ _ => rfl
  · rfl
theorem bitsTo_or {p q : Nat → Bool} {n m : Nat} (hm : m < n) (hq : ∀ j, j < n → q j = (p j || decide (j = m))) : bitsTo p n ||| 2 ^ m = bitsTo q n := by
  apply Nat.eq_of_testBit_eq
  intro j
  rw [Nat.testBit_or, bitsTo_testBit, bitsTo_testBit, Nat.testBit_two_pow]
  by_cases hj : j < n
  · rw [decide_eq_true hj, hq j hj]
    by_cases e : j = m
    · subst e; simp
    · rw [decide_eq_false e, decide_eq_false (fun h => e h.symm)]; simp
  · rw [decide_eq_false hj, decide_eq_false (show ¬ m = j by omega)]; rfl
theorem bitsTo_add {p q : Nat → Bool} {m : Nat} (hp : p m = false) : ∀ {n : Nat}, m < n → (∀ j, j < n → q j = (p j || decide (j = m))) → bitsTo p n + 2 ^ m = bitsTo q n
  | 0, h, _ => by omega
  | n + 1, hm, hq => by
    rw [bitsTo, bitsTo]
    have hn := hq n (by omega)
    by_cases e : n = m
    · subst e
      have h1 : bitsTo q n = bitsTo p n := bitsTo_same fun j hj => by rw [hq j (by omega), decide_eq_false (show ¬ j = n by omega)]; simp
      rw [h1, hn, hp, decide_eq_true rfl]; simp
    · have ih := bitsTo_add hp (n := n) (by omega) (fun j hj => hq j (by omega))
      rw [hn, decide_eq_false e, Bool.or_false]
      omega
section
variable {P Q : Nat → Nat → Bool} {n k m : Nat}
theorem orP_0 : orP P Q 0 0 = P := by
  funext i j
  unfold orP
  rw [decide_eq_false (show ¬ i < 0 by omega), decide_eq_false (show ¬ j < 0 by omega)]; simp
theorem relN_next : relN (orP P Q k n) n = relN (orP P Q (k + 1) 0) n := relN_congr fun i j hi hj => by
  unfold orP
  rw [decide_eq_true hj, decide_eq_false (show ¬ j < 0 by omega), Bool.and_true, Bool.and_false, Bool.or_false]
  congr 2
  rw [Bool.eq_iff_iff]; simp; omega
theorem relN_done : relN (orP P Q n 0) n = relN (fun i j => P i j || Q i j) n := relN_congr fun i j hi hj => by
  unfold orP
  rw [decide_eq_true hi]; simp
theorem orP_step (j : Nat) : orP P Q k (m + 1) k j = (orP P Q k m k j || (Q k m && decide (j = m))) := by
  unfold orP
  by_cases e : j = m
  · subst e
    rw [decide_eq_true (show j < j + 1 by omega), decide_eq_false (show ¬ j < j by omega)]; simp
  · rw [decide_eq_false e]
    have : decide (j < m + 1) = decide (j < m) := by rw [Bool.eq_iff_iff]; simp; omega
    rw [this]; simp
theorem orP_else {i : Nat} (h : i ≠ k) (m' j : Nat) : orP P Q k m i j = orP P Q k m' i j := by
  unfold orP; rw [decide_eq_false h]; simp
theorem relN_yes (hk : k < n) (hm : m < n) (h : Q k m = true) : upd (relN (orP P Q k m) n) k (relN (orP P Q k m) n k ||| 2 ^ m) = relN (orP P Q k (m + 1)) n := by
  funext i
  unfold upd relN
  by_cases e : i = k
  · subst e
    rw [if_pos rfl, if_pos hk, if_pos hk]
    exact bitsTo_or hm fun j _ => by rw [orP_step, h, Bool.true_and]
  · rw [if_neg e]
    split
    · exact bitsTo_same fun j _ => orP_else e _ _
    · rfl
theorem relN_add (hk : k < n) (hm : m < n) (h : Q k m = true) (hp : P k m = false) : upd (relN (orP P Q k m) n) k (relN (orP P Q k m) n k + 2 ^ m) = relN (orP P Q k (m + 1)) n := by
  funext i
  unfold upd relN
  by_cases e : i = k
  · subst e
    rw [if_pos rfl, if_pos hk, if_pos hk]
    exact bitsTo_add (by unfold orP; rw [hp]; simp) hm fun j _ => by rw [orP_step, h, Bool.true_and]
  · rw [if_neg e]
    split
    · exact bitsTo_same fun j _ => orP_else e _ _
    · rfl
theorem relN_no (h : Q k m = false) : relN (orP P Q k m) n = relN (orP P Q k (m + 1)) n := relN_congr fun i j hi hj => by
  by_cases e : i = k
  · subst e; rw [orP_step, h]; simp
  · exact orP_else e _ _
theorem relN_had (h : P k m = true) : relN (orP P Q k m) n = relN (orP P Q k (m + 1)) n := relN_congr fun i j hi hj => by
  by_cases e : i = k
  · subst e
    rw [orP_step]
    by_cases e2 : j = m
    · subst e2; unfold orP; rw [h]; simp
    · rw [decide_eq_false e2]; simp
  · exact orP_else e _ _
theorem relN_skip {m' : Nat} (hmm : m ≤ m') (h : ∀ j, m ≤ j → j < m' → Q k j = false) : relN (orP P Q k m) n = relN (orP P Q k m') n := relN_congr fun i j hi hj => by
  by_cases e : i = k
  · subst e
    unfold orP
    by_cases h1 : j < m
    · rw [decide_eq_true h1, decide_eq_true (show j < m' by omega)]
    · by_cases h2 : j < m'
      · rw [h j (by omega) h2]; simp
      · rw [decide_eq_false h1, decide_eq_false h2]
  · exact orP_else e _ _
end
theorem relN_lt (R : Nat → Nat → Bool) {n : Nat} (hn : n ≤ 16) (i : Nat) : relN R n i < 65536 := by
  unfold relN
  split
  · exact bitsTo_lt_16 _ hn
  · decide
theorem relN_lt_n (R : Nat → Nat → Bool) (n i : Nat) : relN R n i < 2 ^ n := by
  unfold relN
  split
  · exact bitsTo_lt _ _
  · exact Nat.pow_pos (by decide)
theorem relN_bit (R : Nat → Nat → Bool) (n i j : Nat) : (relN R n i).testBit j = (decide (i < n) && (decide (j < n) && R i j)) := by
  unfold relN
  by_cases h : i < n
  · rw [if_pos h, bitsTo_testBit, decide_eq_true h, Bool.true_and]
  · rw [if_neg h, decide_eq_false h]; simp
end Go.Proofs.Ytnflkmjfhbfekaa

namespace Go.Proofs.Ytnflkmjfhbfekaa
open Go.RowKit

/-! lists of events compared -/
def evEqB (x y : Ev) : Bool := decide (x.who = y.who) && (decide (x.thing = y.thing) && (decide (x.kind = y.kind) && decide (x.value = y.value)))
theorem evEqB_eq (x y : Ev) : evEqB x y = true ↔ x = y := by
  cases x; cases y
  simp [evEqB]
set_option maxRecDepth 40000 in
theorem run_neq_ev (x y : Ev) (w : World) : (binOp .neq 35 (.agg (Ev.enc x).toArray) (.agg (Ev.enc y).toArray)).run Try.prog w = .ok (.bool (!evEqB x y)) w := by
  obtain ⟨x1, x2, x3, x4⟩ := x
  obtain ⟨y1, y2, y3, y4⟩ := y
  rw [evCells, evCells, run_neq_struct]
  go_simp
  unfold evEqB
  repeat' split
  all_goals simp_all
theorem run_eqGuard_ev (op : BinOp) (x y : Operand) (xs ys : Array Value) (w : World) : (eqGuard op 35 x y (.agg xs) (.agg ys)).run Try.prog w = .ok () w :=
  run_eqGuard_agg w op _ x y xs ys Try.eqGuardType35
section
variable {C : Ctx} {E : Slots} {S : List Ent} {ty ty3 : Nat} {x y : Operand} (u v : Ev)
theorem QS_neqEv (hx : evo E x = some (.agg (Ev.enc u).toArray)) (hy : evo E y = some (.agg (Ev.enc v).toArray)) : QS Try.prog C E S (.binOp .neq 35 x y ty3) ty (.bool (!evEqB u v)) :=
  QS.of (fun a w ha _ => by
    have h2 := run_neq_ev u v w
    have hg := run_eqGuard_ev .neq x y (Ev.enc u).toArray (Ev.enc v).toArray w
    simp only [execOp, ha.evo hx, ha.evo hy, Sem.run_bind, hg, Result.andThen_ok, h2]
    simp)
end
set_option maxRecDepth 100000 in
set_option maxHeartbeats 2000000 in
theorem equalEv_any (A B : Option Addr) (c d : Nat) (l m : List Ev) (w : World) (hl : l.length ≤ 9223372036854775807) (hm : m.length ≤ 9223372036854775807) (hA : RdEv w A l) (hB : RdEv w B m) :
    Calls Try.prog 13 #[.slice A l.length c, .slice B m.length d] w fun e w' => e = .returned (.bool (decide (l = m))) ∧ Below w.heap.size w w' := by
  refine calls_T (S := []) [] Try.func13 rfl Try.ntmps13 (by simp) (Mem.nil _) ?_
  repeat' (first | ((first | with_reducible (first | apply TL_q | apply TD_q0 | apply TD_q1 | apply TD_q2 | apply TD_q3) | ((with_reducible (first | apply TD_q0y | apply TD_q1y)); exact rfl; exact rfl; (with_reducible exact rfl))); (first | exact QS.auto | ((with_reducible apply QS_neqEv); exact rfl; exact rfl)); exact rfl) | (refine GO ?_) | (refine GOE ?_; (first | (rintro _ _ ⟨rfl, rfl⟩) | (rintro _ _ ⟨g, rfl, rfl⟩) | (rintro _ _ ⟨A', c', rfl, rfl⟩))) | ((refine GO2 ?_ ?_) <;> intro h <;> (try (repeat (first | with_reducible (replace h := of_decide_eq_true h) | with_reducible (replace h := of_decide_eq_false h) | with_reducible (replace h := bnt h) | with_reducible (replace h := bnf h) | with_reducible (replace h := Int.not_lt.mp h) | with_reducible (replace h := Int.not_le.mp h) | with_reducible (replace h := band_dec h) | with_reducible (replace h := band_decF h) | with_reducible (replace h := bor_dec h) | with_reducible (replace h := bor_decF h)))) <;> (try (exfalso; first | contradiction | omega))) | fail)
  · (refine At_ret Try.results13 rfl (fun w' hw => ?_))
    rw [decide_eq_false (fun e => by subst e; omega)]
    exact ⟨rfl, hw.below0 rfl⟩
  have hlen : l.length = m.length := by omega
  refine T_loop (X := Nat) (fun k => [(13, .int .i64 (k : Nat)), (12, .int .i64 l.length), (1, .slice B m.length d), (0, .slice A l.length c)])
    (fun _ => []) (fun k => k ≤ l.length ∧ Hid (∀ j, j < k → l[j]? = m[j]?)) (fun k => l.length - k) 0 ⟨by omega, Lib.hid (by omega)⟩ (by (repeat (first | exact SubE.nil _ | refine SubE.cons rfl ?_))) (by exact SUBS) ?_
  rintro k ⟨hk, hall⟩
  by_cases hlt : k < l.length
  · obtain ⟨b, o, rfl, hb0⟩ := RdE.open hA (by omega)
    obtain ⟨b2, o2, rfl, hb2⟩ := RdE.open hB (by omega)
    have hlt2 : k < m.length := by omega
    have hev := evEqB_eq l[k] m[k]
    repeat' (first | ((first | with_reducible (first | apply TL_q | apply TD_q0 | apply TD_q1 | apply TD_q2 | apply TD_q3) | ((with_reducible (first | apply TD_q0y | apply TD_q1y)); exact rfl; exact rfl; (with_reducible exact rfl))); (first | exact QS.auto | ((with_reducible apply QS_neqEv); exact rfl; exact rfl)); exact rfl) | (refine GG ?_) | (refine GE ?_; (first | (rintro _ _ ⟨rfl, rfl⟩) | (rintro _ _ ⟨g, rfl, rfl⟩) | (rintro _ _ ⟨A', c', rfl, rfl⟩)); (try refine ⟨SUB, ?_⟩)) | ((refine GO2 ?_ ?_) <;> intro h <;> (try (repeat (first | with_reducible (replace h := of_decide_eq_true h) | with_reducible (replace h := of_decide_eq_false h) | with_reducible (replace h := bnt h) | with_reducible (replace h := bnf h) | with_reducible (replace h := Int.not_lt.mp h) | with_reducible (replace h := Int.not_le.mp h) | with_reducible (replace h := band_dec h) | with_reducible (replace h := band_decF h) | with_reducible (replace h := bor_dec h) | with_reducible (replace h := bor_decF h)))) <;> (try (exfalso; first | contradiction | omega))) | (refine GOF ?_ ?_) | ((with_reducible apply T_draw (id := 6) 1000 (OT.seq [(0, 0), (0, 1), (0, 2), (0, 4), (0, 5), (0, 6), (1, 3), (1, 7), (0, 8)] .nil)); kernel_rfl; exact rfl; kernel_rfl; (repeat (first | with_reducible exact Blind.body | with_reducible apply Blind.seq | with_reducible apply Blind.block))) | fail)
    · (refine At_ret Try.results13 rfl (fun w' hw => ?_))
      have hne : ¬ l[k] = m[k] := fun e => by
        have h1 : evEqB l[k] m[k] = false := by assumption
        rw [hev.2 e] at h1; cases h1
      rw [decide_eq_false (fun e => hne (by subst e; rfl))]
      exact ⟨rfl, hw.below0 rfl⟩
    · have he : l[k] = m[k] := hev.1 (by assumption)
      (refine At_rounds (k + 1) ?_ ?_ ?_ ?_; (exact ⟨by show k + 1 ≤ l.length; omega, Lib.hid (fun j hj => by
        by_cases e : j = k
        · subst e; rw [List.getElem?_eq_getElem hlt, List.getElem?_eq_getElem hlt2, he]
        · exact hall.out j (by omega))⟩); (omega); ((repeat (first | exact SubE.nil _ | refine SubE.cons rfl ?_))); (exact SUBS))
  · obtain rfl : k = l.length := by omega
    repeat' (first | ((first | with_reducible (first | apply TL_q | apply TD_q0 | apply TD_q1 | apply TD_q2 | apply TD_q3) | ((with_reducible (first | apply TD_q0y | apply TD_q1y)); exact rfl; exact rfl; (with_reducible exact rfl))); (first | exact QS.auto | ((with_reducible apply QS_neqEv); exact rfl; exact rfl)); exact rfl) | (refine GO ?_) | (refine GOE ?_; (first | (rintro _ _ ⟨rfl, rfl⟩) | (rintro _ _ ⟨g, rfl, rfl⟩) | (rintro _ _ ⟨A', c', rfl, rfl⟩))) | ((refine GO2 ?_ ?_) <;> intro h <;> (try (repeat (first | with_reducible (replace h := of_decide_eq_true h) | with_reducible (replace h := of_decide_eq_false h) | with_reducible (replace h := bnt h) | with_reducible (replace h := bnf h) | with_reducible (replace h := Int.not_lt.mp h) | with_reducible (replace h := Int.not_le.mp h) | with_reducible (replace h := band_dec h) | with_reducible (replace h := band_decF h) | with_reducible (replace h := bor_dec h) | with_reducible (replace h := bor_decF h)))) <;> (try (exfalso; first | contradiction | omega))) | fail)
    (refine At_ret Try.results13 rfl (fun w' hw => ?_))
    have he : l = m := by
      apply List.ext_getElem?
      intro j
      by_cases hj : j < l.length
      · exact hall.out j hj
      · rw [List.getElem?_eq_none (by omega), List.getElem?_eq_none (by omega)]
    rw [decide_eq_true he]
    exact ⟨rfl, hw.below0 rfl⟩
end Go.Proofs.Ytnflkmjfhbfekaa
