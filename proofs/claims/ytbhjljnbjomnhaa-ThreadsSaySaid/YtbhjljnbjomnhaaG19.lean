/- Lemmas for the walks (Th7). No condition. -/
import Derived.Test.YtbhjljnbjomnhaaG18
set_option linter.unusedSimpArgs false
set_option linter.unusedVariables false
set_option linter.unusedSectionVars false
set_option linter.unnecessarySimpa false
namespace Go.Proofs.Ytbhjljnbjomnhaa
open Go.RowKit
set_option linter.unusedSectionVars false

section
variable {P : Program} {C : Ctx} {E : Slots} {S S' : List Ent} {ty ty2 ty3 : Nat} {x y : Operand} {α : Type} {enc : α → List Value} {M et c : Nat} {A : Option Addr} {ls : List α} {w : World}
theorem QS_quo3 {a : Int} {k r : Nat} (ha : a = ((3 * k + r : Nat) : Int)) (hx : evo E x = some (.int .i64 a)) (hy : evo E y = some (.int .i64 3)) (hr : r < 3) (hk : k < 1000) : QS P C E S (.binOp .quo ty2 x y ty3) ty (.int .i64 (k : Nat)) :=
  QS.of (fun _ w he _ => binInt he hx hy _ (by
    subst ha
    have h2 : Int.tdiv ((3 * k + r : Nat) : Int) 3 = (k : Int) := by
      rw [Int.tdiv_eq_ediv_of_nonneg (by omega)]; omega
    have h3 : IntKind.i64.wrap (k : Int) = k := IntWalk.i64_in _ ⟨by omega, by omega⟩
    simp only [binOp, Op.intDiv]
    rw [h2, h3]
    rfl))
theorem QS_rem3 {a : Int} {k r : Nat} (ha : a = ((3 * k + r : Nat) : Int)) (hx : evo E x = some (.int .i64 a)) (hy : evo E y = some (.int .i64 3)) (hr : r < 3) : QS P C E S (.binOp .rem ty2 x y ty3) ty (.int .i64 (r : Nat)) :=
  QS.of (fun _ w he _ => binInt he hx hy _ (by
    subst ha
    have h2 : Int.tmod ((3 * k + r : Nat) : Int) 3 = (r : Int) := by
      rw [Int.tmod_eq_emod_of_nonneg (by omega)]; omega
    simp only [binOp, Op.intDiv]
    rw [h2]
    rfl))
/-- a cut behind a region that stands last of the first part -/
theorem T_cutR {Q : Exit → Act → World → Prop} {X : Type} (id : Nat) {ops : Array Oper} {dr : Bool} {y : Code} (I : X → Slots) (J : X → List Ent) (pre : X → Prop) (hx : T P C (.region id ops dr) (Exit.then (Cut C I J pre) Q) E S) (hy : ∀ z, pre z → T P C y Q (I z) (J z)) : T P C (.region id ops dr) (Exit.then (fun a w => y.wp P Q a w) Q) E S :=
  ⟨fun a w ha hw => Code.wp_mono (fun e a' w' h => by
    cases e with
    | normal =>
      obtain ⟨z, hp, he, hm⟩ := h
      exact (hy z hp).run a' w' he hm
    | _ => exact h) (hx.run a w ha hw)⟩
/-- what is one's own is read alone from now on -/
theorem Mem.ownRdU (hu : Upd S (entOwn enc M et A c ls) (entRd enc M A ls) S') (hM : ∀ x, (enc x).length = M) (hw : Mem C w S) : Mem C w S' := by
  have h1 := hw.ownRd hu.mem hM
  refine hw.upd hu (Keeps.refl [] w) (by simp) (fun g hg => ?_) h1
  have hg' : (entOwn enc M et A c ls).has g := by
    show (Value.slice A ls.length c).ownBlock = some g
    have hg2 : A.map (·.block) = some g := hg
    cases A with
    | none => cases hg2
    | some a => exact hg2
  exact ⟨((hw.holds _ hu.mem).2 g hg').1, .inl hg'⟩
end
theorem hdEnc_mk (a : Option Addr) (n c : Nat) : hdEnc ⟨a, n, c⟩ = [.slice a n c] := rfl
def hadZ (p : Pe) : Int := ((3 * p.k + (if p.ph = 3 then 1 else p.ph) : Nat) : Int)
def stuckB (p : Pe) : Bool := decide (p.ph = 3)
def hadL (s : Th) : List Int := s.pe.map hadZ
def callL (s : Th) : List Int := s.pe.map (·.call)
def resL (s : Th) : List Int := s.pe.map (·.res)
def stuL (s : Th) : List Bool := s.pe.map stuckB
theorem map_same {β : Type} {f : Pe → β} {l : List Pe} {q : Nat} (h : q < l.length) {p : Pe} (he : f p = f l[q]) : (l.set q p).map f = l.map f := by
  rw [List.map_set, he]
  apply List.ext_getElem
  · simp
  · intro i h1 h2
    rw [List.getElem_set]
    split
    · rename_i e; subst e; simp
    · rfl
theorem stepT_k (ts : List Int) (ps : List (List Ak)) (s : Th) (w i : Nat) : ((stepT ts ps s w).pe.getD i default).k ≤ (s.pe.getD i default).k + 1 := by
  have hs : ∀ (q : Pe), q.k ≤ (s.pe.getD w default).k + 1 → ((s.pe.set w q).getD i default).k ≤ (s.pe.getD i default).k + 1 := fun q hq => by
    simp only [List.getD_eq_getElem?_getD, List.getElem?_set] at hq ⊢
    split
    · rename_i e; subst e
      split
      · exact hq
      · rename_i h; simp [h]
    · omega
  unfold stepT
  dsimp only
  (repeat' split) <;> first | omega | exact hs _ (by dsimp only; omega)
theorem dn_len {L : List (List Dn)} {i t : Nat} {x : Dn} : ((L.set i (L.getD i [] ++ [x])).getD t []).length ≤ (L.getD t []).length + 1 := by
  simp only [List.getD_eq_getElem?_getD, List.getElem?_set]
  split
  · rename_i e; subst e
    split
    · simp
    · rename_i h; simp [h]
  · omega
theorem stepT_d (ts : List Int) (ps : List (List Ak)) (s : Th) (w t : Nat) : ((stepT ts ps s w).dn.getD t []).length ≤ (s.dn.getD t []).length + 1 := by
  unfold stepT
  dsimp only
  (repeat' split) <;> first | exact Nat.le_succ _ | exact dn_len
theorem runT_d (ts : List Int) (ps : List (List Ak)) (tu : List Int) (t : Nat) : ∀ k, ((runT ts ps tu k).dn.getD t []).length ≤ k
  | 0 => by
    simp only [runT, th0, List.getD_eq_getElem?_getD, List.getElem?_replicate]
    split <;> simp
  | k + 1 => by
    have h := runT_d ts ps tu t k
    have h2 := stepT_d ts ps (runT ts ps tu k) (tu.getD k 0).toNat t
    rw [runT]
    omega
theorem runT_k (ts : List Int) (ps : List (List Ak)) (tu : List Int) (i : Nat) : ∀ k, ((runT ts ps tu k).pe.getD i default).k ≤ k
  | 0 => by
    simp only [runT, th0, List.getD_eq_getElem?_getD, List.getElem?_replicate]
    split <;> simp
    rfl
  | k + 1 => by
    have h := runT_k ts ps tu i k
    have h2 := stepT_k ts ps (runT ts ps tu k) (tu.getD k 0).toNat i
    rw [runT]
    omega
section
variable (A0 D0 B0 : Option Addr) (c0 e0 d0 : Nat) (ts : List Int) (hs : List Hd) (ps : List (List Ak)) (tu : List Int) (w : World) (hts : ts.length ≤ 9223372036854775807) (hpl : ps.length ≤ 9223372036854775807) (htl : tu.length ≤ 9223372036854775807) (hT : RdInt w A0 ts) (hD : RdRows Ak.enc 3 w D0 hs ps) (hB : RdInt w B0 tu)
  (h0 : pplR ts ps = 0) (h1 : trnR (ps.length : Int) 300 tu = 0)
include hts hpl htl hT hD hB h0 h1
set_option maxRecDepth 100000 in
set_option maxHeartbeats 8000000 in
theorem atOnce_any : Calls Try.prog 46 #[.slice A0 ts.length c0, .slice D0 hs.length e0, .slice B0 tu.length d0] w fun e w' => ∃ x : (Option Addr × Nat) × (Option Addr × Nat), e = .returned (.tuple #[.slice x.1.1 (runT ts ps tu tu.length).evs.length x.1.2, .slice x.2.1 (runT ts ps tu tu.length).sts.length x.2.2]) ∧
    Mem ⟨0, [], w⟩ w' [entOwn Ev.enc 4 86 x.1.1 x.1.2 (runT ts ps tu tu.length).evs, entOwn Stp.enc 2 39 x.2.1 x.2.2 (runT ts ps tu tu.length).sts] := by
  have hlen : hs.length = ps.length := hD.2.1
  obtain ⟨hty, h8, hps⟩ := pplR_ok h0
  obtain ⟨ht3, htu⟩ := trnR_ok h1
  have hrun := fun k hk => runT_ok hty hps htu k hk
  have hrl := fun k => runT_len ts ps tu k
  have hsuc : ∀ k (hk : k < tu.length), runT ts ps tu (k + 1) = stepT ts ps (runT ts ps tu k) tu[k].toNat := fun k hk => by rw [runT, show tu.getD k 0 = tu[k] by simp [hk]]
  obtain ⟨hD1, hD2, hD3⟩ := hD
  have ht4 : ts.length ≤ 4 := by
    unfold typesOk at hty
    rw [Bool.and_eq_true] at hty
    have := of_decide_eq_true hty.1
    omega
  refine calls_T (S := []) [] Try.func46 rfl Try.ntmps46 (by simp) (Mem.nil _) ?_
  repeat' (first
    | ((with_reducible refine T_cutAt (X := Nat × Nat × Nat) 4 (fun a => [(8, .slice none 0 0), (9, .slice none 0 0), (10, .slice (some ⟨a.1, 0, none⟩) hs.length hs.length), (11, .slice (some ⟨a.2.1, 0, none⟩) hs.length hs.length), (12, .slice (some ⟨a.2.2, 0, none⟩) hs.length hs.length), (2, .slice B0 tu.length d0), (0, .slice A0 ts.length c0), (1, .slice D0 hs.length e0)]) (fun a => [entOwn intEnc 1 3 (some ⟨a.1, 0, none⟩) hs.length (List.replicate hs.length 0), entOwn intEnc 1 3 (some ⟨a.2.1, 0, none⟩) hs.length (List.replicate hs.length 0), entOwn intEnc 1 3 (some ⟨a.2.2, 0, none⟩) hs.length (List.replicate hs.length 0)]) (fun _ => True) ?_ ?_))
    | ((first | with_reducible (first | apply TL_q | apply TD_q0 | apply TD_q1 | apply TD_q2 | apply TD_q3) | ((with_reducible (first | apply TD_q0y | apply TD_q1y)); exact rfl; exact rfl; (with_reducible exact rfl))); (first | ((with_reducible apply QS_load); exact rfl; exact Lds.rd1 (enc := hdEnc) hD1 (by simp) hqs (by rw [hhq, hdEnc_mk]; rfl)) | ((with_reducible apply QS_load); exact rfl; exact Lds.own1 (enc := intEnc) (by first | ((repeat (first | with_reducible exact List.mem_cons_self | with_reducible apply List.mem_cons_of_mem)); done) | (repeat (first | exact List.Mem.head _ | apply List.Mem.tail))) (by intro x; rfl) (by omega) (by rw [eR]; rfl)) | ((with_reducible apply QS_quo3 eH); exact rfl; exact rfl; omega; omega) | ((with_reducible apply QS_rem3 eH); exact rfl; exact rfl; omega) | ((with_reducible apply QS_load); exact rfl; exact Lds.own1 (enc := hdEnc) (by first | ((repeat (first | with_reducible exact List.mem_cons_self | with_reducible apply List.mem_cons_of_mem)); done) | (repeat (first | exact List.Mem.head _ | apply List.Mem.tail))) (by intro x; rfl) hjl hhead) | ((with_reducible apply QS_load); exact rfl; exact Lds.own1 (enc := boolEnc) (by first | ((repeat (first | with_reducible exact List.mem_cons_self | with_reducible apply List.mem_cons_of_mem)); done) | (repeat (first | exact List.Mem.head _ | apply List.Mem.tail))) (by intro x; rfl) hSn (by rw [eS]; rfl)) | exact QS.auto); exact rfl) | ((with_reducible (first | apply TD_e2z | apply TD_e3z | apply TL_e | apply TD_e2 | apply TD_e3)); (first | ((with_reducible apply ES_makeSlice (enc := hdEnc) (z0 := hd0)); exact rfl; exact rfl; exact rfl; (first | omega | (simp; omega)); decide; exact rfl) | exact ES.auto); (first | exact rfl | exact ⟨rfl, rfl, rfl⟩); (first | (rintro _ _ ⟨rfl, rfl⟩) | (rintro _ _ ⟨g, rfl, rfl⟩) | (rintro _ _ ⟨A', c', rfl, rfl⟩)); (try refine ⟨SUB, ?_⟩)) | (refine GG ?_) | (refine GE ?_; (first | (rintro _ _ ⟨rfl, rfl⟩) | (rintro _ _ ⟨g, rfl, rfl⟩) | (rintro _ _ ⟨A', c', rfl, rfl⟩)); (try refine ⟨SUB, ?_⟩)) | ((refine GO2 ?_ ?_) <;> intro h <;> (try (repeat (first | with_reducible (replace h := of_decide_eq_true h) | with_reducible (replace h := of_decide_eq_false h) | with_reducible (replace h := bnt h) | with_reducible (replace h := bnf h) | with_reducible (replace h := Int.not_lt.mp h) | with_reducible (replace h := Int.not_le.mp h) | with_reducible (replace h := band_dec h) | with_reducible (replace h := band_decF h) | with_reducible (replace h := bor_dec h) | with_reducible (replace h := bor_decF h)))) <;> (try (exfalso; first | contradiction | omega))) | (refine GOF ?_ ?_) | ((with_reducible apply T_draw (id := 4) 1000 (OT.seq [(0, 0), (0, 1), (0, 3), (0, 4)] (.fork (OT.seq [(2, 2), (0, 6), (2, 5), (0, 7)] .nil) (OT.seq [(2, 5), (2, 2), (0, 6), (0, 7)] .nil)))); kernel_rfl; exact rfl; kernel_rfl; (repeat (first | with_reducible exact Blind.body | with_reducible apply Blind.seq | with_reducible apply Blind.block))) | ((with_reducible apply T_draw (id := 30) 14 (OT.seq [(0, 0), (0, 1), (0, 3), (0, 4), (0, 8), (0, 10), (1, 5), (0, 6), (1, 7), (1, 9), (1, 11), (0, 12)] (.fork (OT.seq [(2, 2), (2, 13), (3, 14), (0, 15), (3, 16)] .nil) (OT.seq [(2, 13)] (.fork (OT.seq [(2, 2), (3, 14), (0, 15), (3, 16)] .nil) (OT.seq [(3, 14), (3, 2), (0, 15), (3, 16)] .nil)))))); kernel_rfl; exact rfl; kernel_rfl; (repeat (first | with_reducible exact Blind.body | with_reducible apply Blind.seq | with_reducible apply Blind.block))) | ((with_reducible apply T_draw (id := 15) 10 (OT.seq [(0, 0), (0, 1), (0, 2), (0, 4), (0, 5), (0, 6), (1, 3), (1, 7), (0, 8), (2, 9), (3, 10), (0, 11)] .nil)); kernel_rfl; exact rfl; kernel_rfl; (repeat (first | with_reducible exact Blind.body | with_reducible apply Blind.seq | with_reducible apply Blind.block)))
    | (apply At_cut (_, _, _); exact trivial; ((repeat (first | exact SubE.nil _ | refine SubE.cons rfl ?_))); (intro w hw; exact hw.sel (by (repeat (first | exact Sel.nil _ | (apply Sel.cons; (repeat (first | with_reducible exact Pick.here _ _ | with_reducible apply Pick.there)))))))) | fail)
  rintro ⟨gH, gC, gR⟩ -
  dsimp only
  repeat' (first | ((first | with_reducible (first | apply TL_q | apply TD_q0 | apply TD_q1 | apply TD_q2 | apply TD_q3) | ((with_reducible (first | apply TD_q0y | apply TD_q1y)); exact rfl; exact rfl; (with_reducible exact rfl))); (first | ((with_reducible apply QS_load); exact rfl; exact Lds.rd1 (enc := hdEnc) hD1 (by simp) hqs (by rw [hhq, hdEnc_mk]; rfl)) | ((with_reducible apply QS_load); exact rfl; exact Lds.own1 (enc := intEnc) (by first | ((repeat (first | with_reducible exact List.mem_cons_self | with_reducible apply List.mem_cons_of_mem)); done) | (repeat (first | exact List.Mem.head _ | apply List.Mem.tail))) (by intro x; rfl) (by omega) (by rw [eR]; rfl)) | ((with_reducible apply QS_quo3 eH); exact rfl; exact rfl; omega; omega) | ((with_reducible apply QS_rem3 eH); exact rfl; exact rfl; omega) | ((with_reducible apply QS_load); exact rfl; exact Lds.own1 (enc := hdEnc) (by first | ((repeat (first | with_reducible exact List.mem_cons_self | with_reducible apply List.mem_cons_of_mem)); done) | (repeat (first | exact List.Mem.head _ | apply List.Mem.tail))) (by intro x; rfl) hjl hhead) | ((with_reducible apply QS_load); exact rfl; exact Lds.own1 (enc := boolEnc) (by first | ((repeat (first | with_reducible exact List.mem_cons_self | with_reducible apply List.mem_cons_of_mem)); done) | (repeat (first | exact List.Mem.head _ | apply List.Mem.tail))) (by intro x; rfl) hSn (by rw [eS]; rfl)) | exact QS.auto); exact rfl) | ((with_reducible (first | apply TD_e2z | apply TD_e3z | apply TL_e | apply TD_e2 | apply TD_e3)); (first | ((with_reducible apply ES_makeSlice (enc := hdEnc) (z0 := hd0)); exact rfl; exact rfl; exact rfl; (first | omega | (simp; omega)); decide; exact rfl) | exact ES.auto); (first | exact rfl | exact ⟨rfl, rfl, rfl⟩); (first | (rintro _ _ ⟨rfl, rfl⟩) | (rintro _ _ ⟨g, rfl, rfl⟩) | (rintro _ _ ⟨A', c', rfl, rfl⟩)); (try refine ⟨SUB, ?_⟩)) | (refine GO ?_) | (refine GOE ?_; (first | (rintro _ _ ⟨rfl, rfl⟩) | (rintro _ _ ⟨g, rfl, rfl⟩) | (rintro _ _ ⟨A', c', rfl, rfl⟩))) | ((refine GO2 ?_ ?_) <;> intro h <;> (try (repeat (first | with_reducible (replace h := of_decide_eq_true h) | with_reducible (replace h := of_decide_eq_false h) | with_reducible (replace h := bnt h) | with_reducible (replace h := bnf h) | with_reducible (replace h := Int.not_lt.mp h) | with_reducible (replace h := Int.not_le.mp h) | with_reducible (replace h := band_dec h) | with_reducible (replace h := band_decF h) | with_reducible (replace h := bor_dec h) | with_reducible (replace h := bor_decF h)))) <;> (try (exfalso; first | contradiction | omega))) | fail)
  obtain ⟨gD, rfl⟩ : ∃ x, x = g := ⟨_, rfl⟩
  obtain ⟨gS, rfl⟩ : ∃ x, x = g := ⟨_, rfl⟩
  have hr0 : runT ts ps tu 0 = th0 ps.length ts.length := rfl
  have i1 : hadL (runT ts ps tu 0) = List.replicate hs.length 0 := by rw [hr0, hlen]; simp [hadL, th0, hadZ]
  have i2 : callL (runT ts ps tu 0) = List.replicate hs.length 0 := by rw [hr0, hlen]; simp [callL, th0]
  have i3 : resL (runT ts ps tu 0) = List.replicate hs.length 0 := by rw [hr0, hlen]; simp [resL, th0]
  have i4 : stuL (runT ts ps tu 0) = List.replicate hs.length false := by rw [hr0, hlen]; simp [stuL, th0, stuckB]
  refine T_loop (X := Nat × (Option Addr × Nat) × (Option Addr × Nat) × List Hd) (fun x => [(43, .int .i64 (x.1 : Nat)), (42, .int .i64 tu.length), (41, .slice B0 tu.length d0), (8, .slice x.2.1.1 (runT ts ps tu x.1).evs.length x.2.1.2), (9, .slice x.2.2.1.1 (runT ts ps tu x.1).sts.length x.2.2.1.2), (14, .int .i64 ((runT ts ps tu x.1).calls : Nat)), (10, .slice (some ⟨gH, 0, none⟩) hs.length hs.length), (11, .slice (some ⟨gC, 0, none⟩) hs.length hs.length), (12, .slice (some ⟨gR, 0, none⟩) hs.length hs.length), (13, .slice (some ⟨gS, 0, none⟩) hs.length hs.length), (15, .slice (some ⟨gD, 0, none⟩) ts.length ts.length), (0, .slice A0 ts.length c0), (1, .slice D0 hs.length e0)])
    (fun x => [entOwn Ev.enc 4 86 x.2.1.1 x.2.1.2 (runT ts ps tu x.1).evs, entOwn Stp.enc 2 39 x.2.2.1.1 x.2.2.1.2 (runT ts ps tu x.1).sts, entOwn intEnc 1 3 (some ⟨gH, 0, none⟩) hs.length (hadL (runT ts ps tu x.1)), entOwn intEnc 1 3 (some ⟨gC, 0, none⟩) hs.length (callL (runT ts ps tu x.1)), entOwn intEnc 1 3 (some ⟨gR, 0, none⟩) hs.length (resL (runT ts ps tu x.1)),
      entOwn boolEnc 1 4 (some ⟨gS, 0, none⟩) hs.length (stuL (runT ts ps tu x.1)), entOwn hdEnc 1 195 (some ⟨gD, 0, none⟩) ts.length x.2.2.2, entInner Dn.enc 3 197 x.2.2.2 (runT ts ps tu x.1).dn])
    (fun x => x.1 ≤ tu.length) (fun x => tu.length - x.1) (0, (none, 0), (none, 0), List.replicate ts.length hd0) (by (try dsimp only); omega) (by (try dsimp only); rw [hr0]; (repeat (first | exact SubE.nil _ | refine SubE.cons rfl ?_))) (fun w' hw => by
      dsimp only
      rw [i1, i2, i3, i4, show (runT ts ps tu 0).evs = [] from rfl, show (runT ts ps tu 0).sts = [] from rfl, show (runT ts ps tu 0).dn = List.replicate ts.length [] from rfl]
      have h1 := ((hw.emptyRows Dn.enc 3 197 ts.length).nilOwn Stp.enc 2 39).nilOwn Ev.enc 4 86
      exact h1.sel (by (repeat (first | exact Sel.nil _ | (apply Sel.cons; (repeat (first | with_reducible exact Pick.here _ _ | with_reducible apply Pick.there))))))) ?_
  clear i1 i2 i3 i4 hr0
  rintro ⟨k, ⟨AE, cE⟩, ⟨AG, cG⟩, hD⟩ hk
  dsimp only at hk ⊢
  have hok := hrun k hk
  have hrlk := hrl k
  by_cases hkl : k < tu.length
  · obtain ⟨bB, oB, rfl, _⟩ := RdE.open hB (by omega)
    have hz := htu k hkl
    have hzz : ((tu[k].toNat : Nat) : Int) = tu[k] := by omega
    have hsk := hsuc k hkl
    have hkk := runT_k ts ps tu tu[k].toNat k
    have hkd := fun t => runT_d ts ps tu t k
    clear hrun hrl hsuc
    obtain ⟨s, hs0⟩ : ∃ s, runT ts ps tu k = s := ⟨_, rfl⟩
    rw [hs0] at hok hrlk hsk hkk hkd ⊢
    have q1 : tu[k].toNat < s.pe.length := by rw [hok.pe]; omega
    have q2 : tu[k].toNat < ps.length := by omega
    have ep : s.pe.getD tu[k].toNat default = s.pe[tu[k].toNat] := by simp [q1]
    have er : ps.getD tu[k].toNat [] = ps[tu[k].toNat] := by simp [q2]
    have hle := hok.le tu[k].toNat q1
    obtain ⟨hrn, hrc, hrlen, hrd⟩ := hD3 tu[k].toNat (by omega) q2
    have hpq := hps tu[k].toNat q2
    rw [er] at hle
    rw [ep] at hkk
    obtain ⟨bD, oD, rfl, _⟩ := RdE.open hD1 (by omega)
    have lH : (hadL s).length = hs.length := by simp [hadL, hok.pe, hlen]
    have lC : (callL s).length = hs.length := by simp [callL, hok.pe, hlen]
    have lR : (resL s).length = hs.length := by simp [resL, hok.pe, hlen]
    have lS : (stuL s).length = hs.length := by simp [stuL, hok.pe, hlen]
    have hSn : tu[k].toNat < (stuL s).length := by omega
    have eH : (hadL s)[tu[k].toNat]'(by omega) = hadZ s.pe[tu[k].toNat] := by simp [hadL]
    have eS : (stuL s)[tu[k].toNat]'(by omega) = stuckB s.pe[tu[k].toNat] := by simp [stuL]
    have eC : (callL s)[tu[k].toNat]'(by omega) = s.pe[tu[k].toNat].call := by simp [callL]
    have eR : (resL s)[tu[k].toNat]'(by omega) = s.pe[tu[k].toNat].res := by simp [resL]
    rw [stepT, ep, er] at hsk
    obtain ⟨⟨pk, ph, pc, pr⟩, hpp⟩ : ∃ p, s.pe[tu[k].toNat] = p := ⟨_, rfl⟩
    rw [hpp] at hsk hle hkk eH eS eC eR
    dsimp only at hsk hle hkk eC eR
    by_cases hidle : ps[tu[k].toNat].length ≤ pk ∨ ph = 3
    · rw [if_pos hidle] at hsk
      clear hkd
      obtain ⟨r, hr3, eH2, eS2⟩ : ∃ r, r < 3 ∧ hadZ ⟨pk, ph, pc, pr⟩ = ((3 * pk + r : Nat) : Int) ∧ (ps[tu[k].toNat].length ≤ pk ∨ stuckB ⟨pk, ph, pc, pr⟩ = true) := by
        by_cases e : ph = 3
        · subst e; exact ⟨1, by decide, rfl, .inr rfl⟩
        · have : ph < 3 := by omega
          exact ⟨ph, this, by unfold hadZ; dsimp only; rw [if_neg e], .inl (by omega)⟩
      rw [eH2] at eH
      generalize stuckB ⟨pk, ph, pc, pr⟩ = sb at *
      have hns := hrn
      clear hpq
      generalize ps[tu[k].toNat] = row at *
      rcases eS2 with h4 | rfl
      all_goals
        repeat' (first | ((first | with_reducible (first | apply TL_q | apply TD_q0 | apply TD_q1 | apply TD_q2 | apply TD_q3) | ((with_reducible (first | apply TD_q0y | apply TD_q1y)); exact rfl; exact rfl; (with_reducible exact rfl))); (first | ((with_reducible apply QS_load); exact rfl; exact Lds.rd1 (enc := hdEnc) hD1 (by simp) hqs (by rw [hhq, hdEnc_mk]; rfl)) | ((with_reducible apply QS_load); exact rfl; exact Lds.own1 (enc := intEnc) (by first | ((repeat (first | with_reducible exact List.mem_cons_self | with_reducible apply List.mem_cons_of_mem)); done) | (repeat (first | exact List.Mem.head _ | apply List.Mem.tail))) (by intro x; rfl) (by omega) (by rw [eR]; rfl)) | ((with_reducible apply QS_quo3 eH); exact rfl; exact rfl; omega; omega) | ((with_reducible apply QS_rem3 eH); exact rfl; exact rfl; omega) | ((with_reducible apply QS_load); exact rfl; exact Lds.own1 (enc := hdEnc) (by first | ((repeat (first | with_reducible exact List.mem_cons_self | with_reducible apply List.mem_cons_of_mem)); done) | (repeat (first | exact List.Mem.head _ | apply List.Mem.tail))) (by intro x; rfl) hjl hhead) | ((with_reducible apply QS_load); exact rfl; exact Lds.own1 (enc := boolEnc) (by first | ((repeat (first | with_reducible exact List.mem_cons_self | with_reducible apply List.mem_cons_of_mem)); done) | (repeat (first | exact List.Mem.head _ | apply List.Mem.tail))) (by intro x; rfl) hSn (by rw [eS]; rfl)) | exact QS.auto); exact rfl) | ((with_reducible (first | apply TD_e2z | apply TD_e3z | apply TL_e | apply TD_e2 | apply TD_e3)); (first | ((with_reducible apply ES_makeSlice (enc := hdEnc) (z0 := hd0)); exact rfl; exact rfl; exact rfl; (first | omega | (simp; omega)); decide; exact rfl) | exact ES.auto); (first | exact rfl | exact ⟨rfl, rfl, rfl⟩); (first | (rintro _ _ ⟨rfl, rfl⟩) | (rintro _ _ ⟨g, rfl, rfl⟩) | (rintro _ _ ⟨A', c', rfl, rfl⟩)); (try refine ⟨SUB, ?_⟩)) | (refine GO ?_) | (refine GOE ?_; (first | (rintro _ _ ⟨rfl, rfl⟩) | (rintro _ _ ⟨g, rfl, rfl⟩) | (rintro _ _ ⟨A', c', rfl, rfl⟩))) | ((refine GO2 ?_ ?_) <;> intro h <;> (try (repeat (first | with_reducible (replace h := of_decide_eq_true h) | with_reducible (replace h := of_decide_eq_false h) | with_reducible (replace h := bnt h) | with_reducible (replace h := bnf h) | with_reducible (replace h := Int.not_lt.mp h) | with_reducible (replace h := Int.not_le.mp h) | with_reducible (replace h := band_dec h) | with_reducible (replace h := band_decF h) | with_reducible (replace h := bor_dec h) | with_reducible (replace h := bor_decF h)))) <;> (try (exfalso; first | contradiction | omega))) | fail)
      all_goals first | (exfalso; omega) | skip
      all_goals
        apply At_rounds (k + 1, (AE, cE), (AG, cG), hD)
        case hE => dsimp only; rw [hsk]; (repeat (first | exact SubE.nil _ | refine SubE.cons rfl ?_))
        case hS => dsimp only; rw [hsk]; exact fun w' hw => hw.sel (by (repeat (first | exact Sel.nil _ | (apply Sel.cons; (repeat (first | with_reducible exact Pick.here _ _ | with_reducible apply Pick.there))))))
        case hμ => (try dsimp only); omega
        case hp => (try dsimp only); omega
    rw [if_neg hidle] at hsk
    have hlt : pk < ps[tu[k].toNat].length := by omega
    have ha : ps[tu[k].toNat].getD pk default = ps[tu[k].toNat][pk] := by simp [hlt]
    rw [ha] at hsk
    have hab := hpq pk hlt
    clear hpq ha er
    obtain ⟨bR, oR, hra, _⟩ := RdE.open hrd (by omega)
    have hqs : tu[k].toNat < hs.length := by omega
    obtain ⟨rc, hhq⟩ : ∃ rc, hs[tu[k].toNat] = ⟨some ⟨bR, oR, none⟩, ps[tu[k].toNat].length, rc⟩ := ⟨hs[tu[k].toNat].c, by rw [← hra, ← hrn]⟩
    rw [hra] at hrd
    generalize ps[tu[k].toNat] = row at *
    obtain ⟨s', hs'⟩ : ∃ s', runT ts ps tu (k + 1) = s' := ⟨_, rfl⟩
    rw [hs'] at hsk
    have hs3 : stuckB ⟨pk, ph, pc, pr⟩ = false := by unfold stuckB; rw [decide_eq_false]; intro e; exact hidle (.inr e)
    rw [hs3] at eS
    have hh : hadZ ⟨pk, ph, pc, pr⟩ = ((3 * pk + ph : Nat) : Int) := by unfold hadZ; dsimp only; rw [if_neg fun e => hidle (.inr e)]
    rw [hh] at eH
    have hph : ph < 3 := by omega
    have dH : ∀ p' : Pe, hadZ p' = ((3 * pk + ph : Nat) : Int) + 1 → s'.pe = s.pe.set tu[k].toNat p' → hadL s' = (hadL s).set tu[k].toNat ((hadL s)[tu[k].toNat]'(by omega) + 1) := fun p' e1 e2 => by
      rw [eH]; unfold hadL; rw [e2, List.map_set, e1]
    have dC : ∀ p' : Pe, p'.call = pc → s'.pe = s.pe.set tu[k].toNat p' → callL s' = callL s := fun p' e1 e2 => by
      unfold callL; rw [e2]; exact map_same q1 (by rw [hpp]; exact e1)
    have dR : ∀ p' : Pe, p'.res = pr → s'.pe = s.pe.set tu[k].toNat p' → resL s' = resL s := fun p' e1 e2 => by
      unfold resL; rw [e2]; exact map_same q1 (by rw [hpp]; exact e1)
    have dS : ∀ p' : Pe, stuckB p' = false → s'.pe = s.pe.set tu[k].toNat p' → stuL s' = stuL s := fun p' e1 e2 => by
      unfold stuL; rw [e2]; exact map_same q1 (by rw [hpp, hs3]; exact e1)
    by_cases hp0 : ph = 0
    · subst hp0
      rw [if_pos rfl] at hsk
      have eA : s'.evs = s.evs ++ [⟨tu[k], row[pk].thing, row[pk].kind, row[pk].arg⟩] := by rw [hsk]; dsimp only; rw [hzz]
      have eB : s'.sts = s.sts := by rw [hsk]
      have eL : ((s'.calls : Nat) : Int) = (s.calls : Int) + 1 := by rw [hsk]; dsimp only; omega
      have eD : s'.dn = s.dn := by rw [hsk]
      have ePe : s'.pe = s.pe.set tu[k].toNat ⟨pk, 1, (s.calls : Nat), pr⟩ := by rw [hsk]
      have n1 := dH _ (by simp [hadZ]; try omega) ePe
      have n2 : callL s' = (callL s).set tu[k].toNat (s.calls : Nat) := by unfold callL; rw [ePe, List.map_set]
      have n3 := dR _ rfl ePe
      have n4 := dS _ rfl ePe
      clear hsk dH dC dR dS hab
      repeat' (first | ((first | with_reducible (first | apply TL_q | apply TD_q0 | apply TD_q1 | apply TD_q2 | apply TD_q3) | ((with_reducible (first | apply TD_q0y | apply TD_q1y)); exact rfl; exact rfl; (with_reducible exact rfl))); (first | ((with_reducible apply QS_load); exact rfl; exact Lds.rd1 (enc := hdEnc) hD1 (by simp) hqs (by rw [hhq, hdEnc_mk]; rfl)) | ((with_reducible apply QS_load); exact rfl; exact Lds.own1 (enc := intEnc) (by first | ((repeat (first | with_reducible exact List.mem_cons_self | with_reducible apply List.mem_cons_of_mem)); done) | (repeat (first | exact List.Mem.head _ | apply List.Mem.tail))) (by intro x; rfl) (by omega) (by rw [eR]; rfl)) | ((with_reducible apply QS_quo3 eH); exact rfl; exact rfl; omega; omega) | ((with_reducible apply QS_rem3 eH); exact rfl; exact rfl; omega) | ((with_reducible apply QS_load); exact rfl; exact Lds.own1 (enc := hdEnc) (by first | ((repeat (first | with_reducible exact List.mem_cons_self | with_reducible apply List.mem_cons_of_mem)); done) | (repeat (first | exact List.Mem.head _ | apply List.Mem.tail))) (by intro x; rfl) hjl hhead) | ((with_reducible apply QS_load); exact rfl; exact Lds.own1 (enc := boolEnc) (by first | ((repeat (first | with_reducible exact List.mem_cons_self | with_reducible apply List.mem_cons_of_mem)); done) | (repeat (first | exact List.Mem.head _ | apply List.Mem.tail))) (by intro x; rfl) hSn (by rw [eS]; rfl)) | exact QS.auto); exact rfl) | ((with_reducible (first | apply TD_e2z | apply TD_e3z | apply TL_e | apply TD_e2 | apply TD_e3)); (first | ((with_reducible apply ES_makeSlice (enc := hdEnc) (z0 := hd0)); exact rfl; exact rfl; exact rfl; (first | omega | (simp; omega)); decide; exact rfl) | exact ES.auto); (first | exact rfl | exact ⟨rfl, rfl, rfl⟩); (first | (rintro _ _ ⟨rfl, rfl⟩) | (rintro _ _ ⟨g, rfl, rfl⟩) | (rintro _ _ ⟨A', c', rfl, rfl⟩)); (try refine ⟨SUB, ?_⟩)) | (refine GO ?_) | (refine GOE ?_; (first | (rintro _ _ ⟨rfl, rfl⟩) | (rintro _ _ ⟨g, rfl, rfl⟩) | (rintro _ _ ⟨A', c', rfl, rfl⟩))) | ((refine GO2 ?_ ?_) <;> intro h <;> (try (repeat (first | with_reducible (replace h := of_decide_eq_true h) | with_reducible (replace h := of_decide_eq_false h) | with_reducible (replace h := bnt h) | with_reducible (replace h := bnf h) | with_reducible (replace h := Int.not_lt.mp h) | with_reducible (replace h := Int.not_le.mp h) | with_reducible (replace h := band_dec h) | with_reducible (replace h := band_decF h) | with_reducible (replace h := bor_dec h) | with_reducible (replace h := bor_decF h)))) <;> (try (exfalso; first | contradiction | omega))) | ((with_reducible (first | apply TD_e2z | apply TD_e3z | apply TL_e | apply TD_e2 | apply TD_e3)); ((with_reducible apply ES_append1 (enc := Ev.enc) (xx := (⟨tu[k], row[pk].thing, row[pk].kind, row[pk].arg⟩ : Ev))); exact rfl; exact rfl; (repeat (first | with_reducible exact List.mem_cons_self | with_reducible apply List.mem_cons_of_mem)); exact rfl; exact fun _ => rfl; exact fun _ => rfl; (intro A' c'; first | ((repeat (first | with_reducible exact Upd.here _ _ _ | with_reducible apply Upd.there)); done) | (repeat (first | exact Upd.here _ _ _ | apply Upd.there))); (omega); decide; exact rfl); (first | exact rfl | exact ⟨rfl, rfl, rfl⟩); (rintro _ _ ⟨A', c', rfl, rfl⟩); (try refine ⟨SUB, ?_⟩)) | fail)
      all_goals first | (exfalso; omega) | skip
      (apply At_rounds (k + 1, (A', c'), (AG, cG), hD); (case hE => (dsimp only; rw [hs', eA, eB, eL]; (repeat (first | exact SubE.nil _ | refine SubE.cons rfl ?_)))); (case hS => (dsimp only; rw [hs', eA, eB, eD, n1, n2, n3, n4]; exact fun w' hw => hw.sel (by (repeat (first | exact Sel.nil _ | (apply Sel.cons; (repeat (first | with_reducible exact Pick.here _ _ | with_reducible apply Pick.there)))))))); (case hμ => ((try dsimp only); omega)); (case hp => ((try dsimp only); omega)))
    rw [if_neg hp0] at hsk
    by_cases hp2 : ph = 2
    · subst hp2
      rw [if_neg (by decide)] at hsk
      have eA : s'.evs = s.evs ++ [⟨tu[k], row[pk].thing, 0, pr⟩] := by rw [hsk]; dsimp only; rw [hzz]
      have eB : s'.sts = s.sts := by rw [hsk]
      have eL : ((s'.calls : Nat) : Int) = (s.calls : Int) := by rw [hsk]
      have eD : s'.dn = s.dn := by rw [hsk]
      have ePe : s'.pe = s.pe.set tu[k].toNat ⟨pk + 1, 0, pc, pr⟩ := by rw [hsk]
      have n1 := dH _ (by simp [hadZ]; try omega) ePe
      have n2 := dC _ rfl ePe
      have n3 := dR _ rfl ePe
      have n4 := dS _ rfl ePe
      clear hsk dH dC dR dS hab
      repeat' (first | ((first | with_reducible (first | apply TL_q | apply TD_q0 | apply TD_q1 | apply TD_q2 | apply TD_q3) | ((with_reducible (first | apply TD_q0y | apply TD_q1y)); exact rfl; exact rfl; (with_reducible exact rfl))); (first | ((with_reducible apply QS_load); exact rfl; exact Lds.rd1 (enc := hdEnc) hD1 (by simp) hqs (by rw [hhq, hdEnc_mk]; rfl)) | ((with_reducible apply QS_load); exact rfl; exact Lds.own1 (enc := intEnc) (by first | ((repeat (first | with_reducible exact List.mem_cons_self | with_reducible apply List.mem_cons_of_mem)); done) | (repeat (first | exact List.Mem.head _ | apply List.Mem.tail))) (by intro x; rfl) (by omega) (by rw [eR]; rfl)) | ((with_reducible apply QS_quo3 eH); exact rfl; exact rfl; omega; omega) | ((with_reducible apply QS_rem3 eH); exact rfl; exact rfl; omega) | ((with_reducible apply QS_load); exact rfl; exact Lds.own1 (enc := hdEnc) (by first | ((repeat (first | with_reducible exact List.mem_cons_self | with_reducible apply List.mem_cons_of_mem)); done) | (repeat (first | exact List.Mem.head _ | apply List.Mem.tail))) (by intro x; rfl) hjl hhead) | ((with_reducible apply QS_load); exact rfl; exact Lds.own1 (enc := boolEnc) (by first | ((repeat (first | with_reducible exact List.mem_cons_self | with_reducible apply List.mem_cons_of_mem)); done) | (repeat (first | exact List.Mem.head _ | apply List.Mem.tail))) (by intro x; rfl) hSn (by rw [eS]; rfl)) | exact QS.auto); exact rfl) | ((with_reducible (first | apply TD_e2z | apply TD_e3z | apply TL_e | apply TD_e2 | apply TD_e3)); (first | ((with_reducible apply ES_makeSlice (enc := hdEnc) (z0 := hd0)); exact rfl; exact rfl; exact rfl; (first | omega | (simp; omega)); decide; exact rfl) | exact ES.auto); (first | exact rfl | exact ⟨rfl, rfl, rfl⟩); (first | (rintro _ _ ⟨rfl, rfl⟩) | (rintro _ _ ⟨g, rfl, rfl⟩) | (rintro _ _ ⟨A', c', rfl, rfl⟩)); (try refine ⟨SUB, ?_⟩)) | (refine GG ?_) | (refine GE ?_; (first | (rintro _ _ ⟨rfl, rfl⟩) | (rintro _ _ ⟨g, rfl, rfl⟩) | (rintro _ _ ⟨A', c', rfl, rfl⟩)); (try refine ⟨SUB, ?_⟩)) | ((refine GO2 ?_ ?_) <;> intro h <;> (try (repeat (first | with_reducible (replace h := of_decide_eq_true h) | with_reducible (replace h := of_decide_eq_false h) | with_reducible (replace h := bnt h) | with_reducible (replace h := bnf h) | with_reducible (replace h := Int.not_lt.mp h) | with_reducible (replace h := Int.not_le.mp h) | with_reducible (replace h := band_dec h) | with_reducible (replace h := band_decF h) | with_reducible (replace h := bor_dec h) | with_reducible (replace h := bor_decF h)))) <;> (try (exfalso; first | contradiction | omega))) | (refine GOF ?_ ?_) | ((with_reducible apply T_draw (id := 4) 1000 (OT.seq [(0, 0), (0, 1), (0, 3), (0, 4)] (.fork (OT.seq [(2, 2), (0, 6), (2, 5), (0, 7)] .nil) (OT.seq [(2, 5), (2, 2), (0, 6), (0, 7)] .nil)))); kernel_rfl; exact rfl; kernel_rfl; (repeat (first | with_reducible exact Blind.body | with_reducible apply Blind.seq | with_reducible apply Blind.block))) | ((with_reducible apply T_draw (id := 30) 14 (OT.seq [(0, 0), (0, 1), (0, 3), (0, 4), (0, 8), (0, 10), (1, 5), (0, 6), (1, 7), (1, 9), (1, 11), (0, 12)] (.fork (OT.seq [(2, 2), (2, 13), (3, 14), (0, 15), (3, 16)] .nil) (OT.seq [(2, 13)] (.fork (OT.seq [(2, 2), (3, 14), (0, 15), (3, 16)] .nil) (OT.seq [(3, 14), (3, 2), (0, 15), (3, 16)] .nil)))))); kernel_rfl; exact rfl; kernel_rfl; (repeat (first | with_reducible exact Blind.body | with_reducible apply Blind.seq | with_reducible apply Blind.block))) | ((with_reducible apply T_draw (id := 15) 10 (OT.seq [(0, 0), (0, 1), (0, 2), (0, 4), (0, 5), (0, 6), (1, 3), (1, 7), (0, 8), (2, 9), (3, 10), (0, 11)] .nil)); kernel_rfl; exact rfl; kernel_rfl; (repeat (first | with_reducible exact Blind.body | with_reducible apply Blind.seq | with_reducible apply Blind.block))) | ((with_reducible (first | apply TD_e2z | apply TD_e3z | apply TL_e | apply TD_e2 | apply TD_e3)); ((with_reducible apply ES_append1 (enc := Ev.enc) (xx := (⟨tu[k], row[pk].thing, 0, pr⟩ : Ev))); exact rfl; exact rfl; (repeat (first | with_reducible exact List.mem_cons_self | with_reducible apply List.mem_cons_of_mem)); exact rfl; exact fun _ => rfl; exact fun _ => rfl; (intro A' c'; first | ((repeat (first | with_reducible exact Upd.here _ _ _ | with_reducible apply Upd.there)); done) | (repeat (first | exact Upd.here _ _ _ | apply Upd.there))); (omega); decide; exact rfl); (first | exact rfl | exact ⟨rfl, rfl, rfl⟩); (rintro _ _ ⟨A', c', rfl, rfl⟩); (try refine ⟨SUB, ?_⟩)) | fail)
      all_goals first | (exfalso; omega) | skip
      (apply At_rounds (k + 1, (A', c'), (AG, cG), hD); (case hE => (dsimp only; rw [hs', eA, eB, eL]; (repeat (first | exact SubE.nil _ | refine SubE.cons rfl ?_)))); (case hS => (dsimp only; rw [hs', eA, eB, eD, n1, n2, n3, n4]; exact fun w' hw => hw.sel (by (repeat (first | exact Sel.nil _ | (apply Sel.cons; (repeat (first | with_reducible exact Pick.here _ _ | with_reducible apply Pick.there)))))))); (case hμ => ((try dsimp only); omega)); (case hp => ((try dsimp only); omega)))
    have hp1 : ph = 1 := by omega
    subst hp1
    rw [if_pos rfl] at hsk
    clear dS
    have hth := askB_ok hab
    obtain ⟨⟨thz, kd, ar⟩, hrow⟩ : ∃ q, row[pk] = q := ⟨_, rfl⟩
    rw [hrow] at hth hsk
    dsimp only at hth hsk
    obtain ⟨hth0, hth1, hth2, hth3⟩ := hth
    obtain ⟨th, rfl⟩ : ∃ th : Nat, thz = th := ⟨thz.toNat, by omega⟩
    have htl2 : th < ts.length := by omega
    have hdl : th < s.dn.length := by rw [hok.dn]; exact htl2
    have hty2 : ts.getD th 0 = ts[th] := by simp [htl2]
    have hdn := hok.ok th hdl
    rw [show ((th : Nat) : Int).toNat = th from rfl, hty2] at hth2 hsk
    rw [hty2] at hdn
    have hsd : stD ts s.dn th = stAt ts[th] (begL ts[th]) s.dn[th] := by unfold stD; rw [hty2, show s.dn.getD th [] = s.dn[th] by simp [hdl]]
    have hdd : s.dn.getD th [] = s.dn[th] := by simp [hdl]
    rw [hsd, hdd] at hsk
    have hlast := hdn.chk
    have hstp : stepO ts[th] (stAt ts[th] (begL ts[th]) s.dn[th]) kd ar = stepP ts[th] (stAt ts[th] (begL ts[th]) s.dn[th]) kd ar := by
      unfold stepO; rw [if_pos hlast, if_pos (by rw [hth2, hth3]; rfl)]
    rw [hstp] at hsk
    have hfit := kinds_fit hth2
    have hat := fun j hj => hdn.at j hj
    have hbg := fun w => begin_any ts[th] w
    clear hth0 hth1 hth2 hth3 hab hdn hstp
    obtain ⟨bT, oT, rfl, _⟩ := RdE.open hT (by omega)
    refine T_innerLen (enc := Dn.enc) (M := 3) (e := 197) (hs := hD) (rows := s.dn) (by first | ((repeat (first | with_reducible exact List.mem_cons_self | with_reducible apply List.mem_cons_of_mem)); done) | (repeat (first | exact List.Mem.head _ | apply List.Mem.tail))) fun hil => ?_
    have hjl : th < hD.length := by omega
    refine T_fact (p := hD[th].n = s.dn[th].length) (fun w hw => (hw.innerRd (enc := Dn.enc) (M := 3) (e := 197) (by first | ((repeat (first | with_reducible exact List.mem_cons_self | with_reducible apply List.mem_cons_of_mem)); done) | (repeat (first | exact List.Mem.head _ | apply List.Mem.tail))) (fun _ => rfl) hjl hdl).1) fun hnn => ?_
    obtain ⟨aD, cD, hhD⟩ : ∃ a c, hD[th] = ⟨a, s.dn[th].length, c⟩ := ⟨hD[th].a, hD[th].c, by rw [← hnn]⟩
    have hhead : (hdEnc hD[th])[0]? = some (.slice aD s.dn[th].length cD) := by rw [hhD]; rfl
    refine T_mem (S' := [entOwn Dn.enc 3 197 aD cD s.dn[th], entOwn Ev.enc 4 86 AE cE s.evs, entOwn Stp.enc 2 39 AG cG s.sts, entOwn intEnc 1 3 (some ⟨gH, 0, none⟩) hs.length (hadL s), entOwn intEnc 1 3 (some ⟨gC, 0, none⟩) hs.length (callL s), entOwn intEnc 1 3 (some ⟨gR, 0, none⟩) hs.length (resL s), entOwn boolEnc 1 4 (some ⟨gS, 0, none⟩) hs.length (stuL s), entOwn hdEnc 1 195 (some ⟨gD, 0, none⟩) ts.length hD, entInner Dn.enc 3 197 (hD.set th hd0) (s.dn.set th [])]) (fun w hw => by
      have h1 := Mem.takeRow hjl hdl (by first | ((repeat (first | with_reducible exact Upd.here _ _ _ | with_reducible apply Upd.there)); done) | (repeat (first | exact Upd.here _ _ _ | apply Upd.there))) hw
      rw [hhD] at h1
      exact h1) ?_
    have hkd := hkd th
    rw [hdd] at hkd
    obtain ⟨l, hl⟩ : ∃ l, s.dn[th] = l := ⟨_, rfl⟩
    rw [hl] at hsd hdd hsk hlast hat hnn hhD hhead hkd ⊢
    clear hdd hsd hnn
    repeat' (first | ((first | with_reducible (first | apply TL_q | apply TD_q0 | apply TD_q1 | apply TD_q2 | apply TD_q3) | ((with_reducible (first | apply TD_q0y | apply TD_q1y)); exact rfl; exact rfl; (with_reducible exact rfl))); (first | ((with_reducible apply QS_load); exact rfl; exact Lds.rd1 (enc := hdEnc) hD1 (by simp) hqs (by rw [hhq, hdEnc_mk]; rfl)) | ((with_reducible apply QS_load); exact rfl; exact Lds.own1 (enc := intEnc) (by first | ((repeat (first | with_reducible exact List.mem_cons_self | with_reducible apply List.mem_cons_of_mem)); done) | (repeat (first | exact List.Mem.head _ | apply List.Mem.tail))) (by intro x; rfl) (by omega) (by rw [eR]; rfl)) | ((with_reducible apply QS_quo3 eH); exact rfl; exact rfl; omega; omega) | ((with_reducible apply QS_rem3 eH); exact rfl; exact rfl; omega) | ((with_reducible apply QS_load); exact rfl; exact Lds.own1 (enc := hdEnc) (by first | ((repeat (first | with_reducible exact List.mem_cons_self | with_reducible apply List.mem_cons_of_mem)); done) | (repeat (first | exact List.Mem.head _ | apply List.Mem.tail))) (by intro x; rfl) hjl hhead) | ((with_reducible apply QS_load); exact rfl; exact Lds.own1 (enc := boolEnc) (by first | ((repeat (first | with_reducible exact List.mem_cons_self | with_reducible apply List.mem_cons_of_mem)); done) | (repeat (first | exact List.Mem.head _ | apply List.Mem.tail))) (by intro x; rfl) hSn (by rw [eS]; rfl)) | exact QS.auto); exact rfl) | ((with_reducible (first | apply TD_e2z | apply TD_e3z | apply TL_e | apply TD_e2 | apply TD_e3)); (first | ((with_reducible apply ES_makeSlice (enc := hdEnc) (z0 := hd0)); exact rfl; exact rfl; exact rfl; (first | omega | (simp; omega)); decide; exact rfl) | exact ES.auto); (first | exact rfl | exact ⟨rfl, rfl, rfl⟩); (first | (rintro _ _ ⟨rfl, rfl⟩) | (rintro _ _ ⟨g, rfl, rfl⟩) | (rintro _ _ ⟨A', c', rfl, rfl⟩)); (try refine ⟨SUB, ?_⟩)) | (refine GO ?_) | (refine GOE ?_; (first | (rintro _ _ ⟨rfl, rfl⟩) | (rintro _ _ ⟨g, rfl, rfl⟩) | (rintro _ _ ⟨A', c', rfl, rfl⟩))) | ((refine GO2 ?_ ?_) <;> intro h <;> (try (repeat (first | with_reducible (replace h := of_decide_eq_true h) | with_reducible (replace h := of_decide_eq_false h) | with_reducible (replace h := bnt h) | with_reducible (replace h := bnf h) | with_reducible (replace h := Int.not_lt.mp h) | with_reducible (replace h := Int.not_le.mp h) | with_reducible (replace h := band_dec h) | with_reducible (replace h := band_decF h) | with_reducible (replace h := bor_dec h) | with_reducible (replace h := bor_decF h)))) <;> (try (exfalso; first | contradiction | omega))) | fail)
    rw [hrow]
    dsimp only [Ak.enc]
    all_goals first | (exfalso; omega) | skip
    obtain ⟨gk, rfl⟩ : ∃ x, x = g := ⟨_, rfl⟩
    repeat' (first | ((first | with_reducible (first | apply TL_q | apply TD_q0 | apply TD_q1 | apply TD_q2 | apply TD_q3) | ((with_reducible (first | apply TD_q0y | apply TD_q1y)); exact rfl; exact rfl; (with_reducible exact rfl))); (first | ((with_reducible apply QS_load); exact rfl; exact Lds.rd1 (enc := hdEnc) hD1 (by simp) hqs (by rw [hhq, hdEnc_mk]; rfl)) | ((with_reducible apply QS_load); exact rfl; exact Lds.own1 (enc := intEnc) (by first | ((repeat (first | with_reducible exact List.mem_cons_self | with_reducible apply List.mem_cons_of_mem)); done) | (repeat (first | exact List.Mem.head _ | apply List.Mem.tail))) (by intro x; rfl) (by omega) (by rw [eR]; rfl)) | ((with_reducible apply QS_quo3 eH); exact rfl; exact rfl; omega; omega) | ((with_reducible apply QS_rem3 eH); exact rfl; exact rfl; omega) | ((with_reducible apply QS_load); exact rfl; exact Lds.own1 (enc := hdEnc) (by first | ((repeat (first | with_reducible exact List.mem_cons_self | with_reducible apply List.mem_cons_of_mem)); done) | (repeat (first | exact List.Mem.head _ | apply List.Mem.tail))) (by intro x; rfl) hjl hhead) | ((with_reducible apply QS_load); exact rfl; exact Lds.own1 (enc := boolEnc) (by first | ((repeat (first | with_reducible exact List.mem_cons_self | with_reducible apply List.mem_cons_of_mem)); done) | (repeat (first | exact List.Mem.head _ | apply List.Mem.tail))) (by intro x; rfl) hSn (by rw [eS]; rfl)) | exact QS.auto); exact rfl) | ((with_reducible (first | apply TD_e2z | apply TD_e3z | apply TL_e | apply TD_e2 | apply TD_e3)); (first | ((with_reducible apply ES_makeSlice (enc := hdEnc) (z0 := hd0)); exact rfl; exact rfl; exact rfl; (first | omega | (simp; omega)); decide; exact rfl) | exact ES.auto); (first | exact rfl | exact ⟨rfl, rfl, rfl⟩); (first | (rintro _ _ ⟨rfl, rfl⟩) | (rintro _ _ ⟨g, rfl, rfl⟩) | (rintro _ _ ⟨A', c', rfl, rfl⟩)); (try refine ⟨SUB, ?_⟩)) | (refine GO ?_) | (refine GOE ?_; (first | (rintro _ _ ⟨rfl, rfl⟩) | (rintro _ _ ⟨g, rfl, rfl⟩) | (rintro _ _ ⟨A', c', rfl, rfl⟩))) | ((refine GO2 ?_ ?_) <;> intro h <;> (try (repeat (first | with_reducible (replace h := of_decide_eq_true h) | with_reducible (replace h := of_decide_eq_false h) | with_reducible (replace h := bnt h) | with_reducible (replace h := bnf h) | with_reducible (replace h := Int.not_lt.mp h) | with_reducible (replace h := Int.not_le.mp h) | with_reducible (replace h := band_dec h) | with_reducible (replace h := band_decF h) | with_reducible (replace h := bor_dec h) | with_reducible (replace h := bor_decF h)))) <;> (try (exfalso; first | contradiction | omega))) | ((with_reducible (first | apply TD_e2z | apply TD_e3z | apply TL_e | apply TD_e2 | apply TD_e3)); ((with_reducible apply ES_callOwn (f := 96)); exact rfl; (intro w hw; exact hbg w); exact rfl); (first | exact rfl | exact ⟨rfl, rfl, rfl⟩); (rintro _ _ ⟨A2, c2, rfl, rfl⟩); (try refine ⟨SUB, ?_⟩)) | fail)
    refine T_fact (p := (begL ts[th]).length ≤ c2 ∧ (A2 = none → c2 = 0)) (fun w hw => hw.ownFacts (enc := intEnc) (M := 1) (et := 3) (by first | ((repeat (first | with_reducible exact List.mem_cons_self | with_reducible apply List.mem_cons_of_mem)); done) | (repeat (first | exact List.Mem.head _ | apply List.Mem.tail)))) fun hf0 => ?_
    refine T_loop (X := Nat × Option Addr × Nat) (fun x => [(121, .int .i64 (x.1 : Nat)), (120, .int .i64 l.length), (119, .slice aD l.length cD), (20, .slice x.2.1 (stAt ts[th] (begL ts[th]) (l.take x.1)).length x.2.2), (19, .pointer (some ⟨gk, 0, none⟩)), (17, .int .i64 tu[k]), (43, .int .i64 (k : Nat)), (42, .int .i64 tu.length), (41, .slice (some ⟨bB, oB, none⟩) tu.length d0), (8, .slice AE s.evs.length cE), (9, .slice AG s.sts.length cG), (14, .int .i64 (s.calls : Nat)), (10, .slice (some ⟨gH, 0, none⟩) hs.length hs.length), (11, .slice (some ⟨gC, 0, none⟩) hs.length hs.length), (12, .slice (some ⟨gR, 0, none⟩) hs.length hs.length), (13, .slice (some ⟨gS, 0, none⟩) hs.length hs.length), (15, .slice (some ⟨gD, 0, none⟩) ts.length ts.length), (0, .slice (some ⟨bT, oT, none⟩) ts.length c0), (1, .slice (some ⟨bD, oD, none⟩) hs.length e0)])
      (fun x => [entRd intEnc 1 x.2.1 (stAt ts[th] (begL ts[th]) (l.take x.1)), entBlk gk 156 #[.int .i64 (th : Nat), .int .i64 kd, .int .i64 ar], entOwn Dn.enc 3 197 aD cD l, entOwn Ev.enc 4 86 AE cE s.evs, entOwn Stp.enc 2 39 AG cG s.sts, entOwn intEnc 1 3 (some ⟨gH, 0, none⟩) hs.length (hadL s), entOwn intEnc 1 3 (some ⟨gC, 0, none⟩) hs.length (callL s), entOwn intEnc 1 3 (some ⟨gR, 0, none⟩) hs.length (resL s), entOwn boolEnc 1 4 (some ⟨gS, 0, none⟩) hs.length (stuL s), entOwn hdEnc 1 195 (some ⟨gD, 0, none⟩) ts.length hD, entInner Dn.enc 3 197 (hD.set th hd0) (s.dn.set th [])]) (fun x => x.1 ≤ l.length ∧ (stAt ts[th] (begL ts[th]) (l.take x.1)).length ≤ x.2.2 ∧ (x.2.1 = none → x.2.2 = 0)) (fun x => l.length - x.1) (0, A2, c2) ⟨by (try dsimp only); omega, hf0.1, hf0.2⟩ (by (repeat (first | exact SubE.nil _ | refine SubE.cons rfl ?_))) (fun w' hw => by
        have h1 := Mem.ownRdU (enc := intEnc) (M := 1) (et := 3) (A := A2) (ls := begL ts[th]) (by first | ((repeat (first | with_reducible exact Upd.here _ _ _ | with_reducible apply Upd.there)); done) | (repeat (first | exact Upd.here _ _ _ | apply Upd.there))) (fun _ => rfl) hw
        show Mem _ w' [entRd intEnc 1 A2 (begL ts[th]), entBlk gk 156 #[.int .i64 (th : Nat), .int .i64 kd, .int .i64 ar], entOwn Dn.enc 3 197 aD cD l, entOwn Ev.enc 4 86 AE cE s.evs, entOwn Stp.enc 2 39 AG cG s.sts, entOwn intEnc 1 3 (some ⟨gH, 0, none⟩) hs.length (hadL s), entOwn intEnc 1 3 (some ⟨gC, 0, none⟩) hs.length (callL s), entOwn intEnc 1 3 (some ⟨gR, 0, none⟩) hs.length (resL s), entOwn boolEnc 1 4 (some ⟨gS, 0, none⟩) hs.length (stuL s), entOwn hdEnc 1 195 (some ⟨gD, 0, none⟩) ts.length hD, entInner Dn.enc 3 197 (hD.set th hd0) (s.dn.set th [])]
        exact h1.sel (by (repeat (first | exact Sel.nil _ | (apply Sel.cons; (repeat (first | with_reducible exact Pick.here _ _ | with_reducible apply Pick.there))))))) ?_
    rintro ⟨j, A1, c1⟩ ⟨hj, hsc, hsn⟩
    dsimp only at hj hsc hsn ⊢
    by_cases hjl2 : j < l.length
    · obtain ⟨k1, k2, k3⟩ := hat j hjl2
      obtain ⟨_, kf, ka, ke⟩ := stepO_ok k2
      rw [ke] at k3
      have hstep := fun (C : Ctx) (R : List Ent) (w : World) (hw : Mem C w ([entRd intEnc 1 A1 (stAt ts[th] (begL ts[th]) (l.take j))] ++ R)) => stepped_mem (a := l[j].arg) hw hsn hsc k1 kf
      clear hsk dH dC dR hat hlast k1 k2 ke kf ka
      generalize stepP ts[th] (stAt ts[th] (begL ts[th]) (l.take j)) l[j].kind l[j].arg = R at *
      generalize stAt ts[th] (begL ts[th]) (l.take j) = s9 at *
      refine T_own (enc := Dn.enc) (ls := l) (by first | ((repeat (first | with_reducible exact List.mem_cons_self | with_reducible apply List.mem_cons_of_mem)); done) | (repeat (first | exact List.Mem.head _ | apply List.Mem.tail))) (by omega) ?_
      rintro gL rfl
      repeat' (first | ((first | with_reducible (first | apply TL_q | apply TD_q0 | apply TD_q1 | apply TD_q2 | apply TD_q3) | ((with_reducible (first | apply TD_q0y | apply TD_q1y)); exact rfl; exact rfl; (with_reducible exact rfl))); (first | ((with_reducible apply QS_load); exact rfl; exact Lds.rd1 (enc := hdEnc) hD1 (by simp) hqs (by rw [hhq, hdEnc_mk]; rfl)) | ((with_reducible apply QS_load); exact rfl; exact Lds.own1 (enc := intEnc) (by first | ((repeat (first | with_reducible exact List.mem_cons_self | with_reducible apply List.mem_cons_of_mem)); done) | (repeat (first | exact List.Mem.head _ | apply List.Mem.tail))) (by intro x; rfl) (by omega) (by rw [eR]; rfl)) | ((with_reducible apply QS_quo3 eH); exact rfl; exact rfl; omega; omega) | ((with_reducible apply QS_rem3 eH); exact rfl; exact rfl; omega) | ((with_reducible apply QS_load); exact rfl; exact Lds.own1 (enc := hdEnc) (by first | ((repeat (first | with_reducible exact List.mem_cons_self | with_reducible apply List.mem_cons_of_mem)); done) | (repeat (first | exact List.Mem.head _ | apply List.Mem.tail))) (by intro x; rfl) hjl hhead) | ((with_reducible apply QS_load); exact rfl; exact Lds.own1 (enc := boolEnc) (by first | ((repeat (first | with_reducible exact List.mem_cons_self | with_reducible apply List.mem_cons_of_mem)); done) | (repeat (first | exact List.Mem.head _ | apply List.Mem.tail))) (by intro x; rfl) hSn (by rw [eS]; rfl)) | exact QS.auto); exact rfl) | ((with_reducible (first | apply TD_e2z | apply TD_e3z | apply TL_e | apply TD_e2 | apply TD_e3)); (first | ((with_reducible apply ES_makeSlice (enc := hdEnc) (z0 := hd0)); exact rfl; exact rfl; exact rfl; (first | omega | (simp; omega)); decide; exact rfl) | exact ES.auto); (first | exact rfl | exact ⟨rfl, rfl, rfl⟩); (first | (rintro _ _ ⟨rfl, rfl⟩) | (rintro _ _ ⟨g, rfl, rfl⟩) | (rintro _ _ ⟨A', c', rfl, rfl⟩)); (try refine ⟨SUB, ?_⟩)) | (refine GO ?_) | (refine GOE ?_; (first | (rintro _ _ ⟨rfl, rfl⟩) | (rintro _ _ ⟨g, rfl, rfl⟩) | (rintro _ _ ⟨A', c', rfl, rfl⟩))) | ((refine GO2 ?_ ?_) <;> intro h <;> (try (repeat (first | with_reducible (replace h := of_decide_eq_true h) | with_reducible (replace h := of_decide_eq_false h) | with_reducible (replace h := bnt h) | with_reducible (replace h := bnf h) | with_reducible (replace h := Int.not_lt.mp h) | with_reducible (replace h := Int.not_le.mp h) | with_reducible (replace h := band_dec h) | with_reducible (replace h := band_decF h) | with_reducible (replace h := bor_dec h) | with_reducible (replace h := bor_decF h)))) <;> (try (exfalso; first | contradiction | omega))) | ((with_reducible (first | apply TD_e2z | apply TD_e3z | apply TL_e | apply TD_e2 | apply TD_e3)); ((with_reducible apply ES_callX (f := 97) (X := {x : Option Addr × Nat // (x.1 = none → x.2 = 0) ∧ R.1.length ≤ x.2}) (S1 := [entRd intEnc 1 A1 s9]) (fun x => stepV R x.1) (fun x => [entRd intEnc 1 x.1.1 R.1])); exact rfl; ((repeat (first | exact Pull.nil _ | (apply Pull.cons; (repeat (first | with_reducible exact Pick.here _ _ | with_reducible apply Pick.there)))))); (intro x; (try dsimp only); repeat (first | exact AppL.nil _ | apply AppL.cons)); (intro w hw; exact hstep _ _ w hw); exact rfl); (first | exact rfl | exact ⟨rfl, rfl, rfl⟩); (rintro _ _ ⟨⟨⟨A3, c3⟩, hx⟩, rfl, rfl⟩); (try refine ⟨SUB, ?_⟩)) | fail)
      apply At_rounds (j + 1, A3, c3)
      case hE => dsimp only; rw [k3]; (repeat (first | exact SubE.nil _ | refine SubE.cons rfl ?_))
      case hS => dsimp only; rw [k3]; exact fun w' hw => hw.sel (by (repeat (first | exact Sel.nil _ | (apply Sel.cons; (repeat (first | with_reducible exact Pick.here _ _ | with_reducible apply Pick.there))))))
      case hμ => (try dsimp only); omega
      case hp => exact ⟨hjl2, by dsimp only; rw [k3]; exact hx.2, hx.1⟩
    · obtain rfl : j = l.length := by omega
      rw [List.take_length] at hsc ⊢
      have hstep := fun (C : Ctx) (R : List Ent) (w : World) (hw : Mem C w ([entRd intEnc 1 A1 (stAt ts[th] (begL ts[th]) l)] ++ R)) => stepped_mem (a := ar) hw hsn hsc hlast hfit
      clear hat hfit hlast
      generalize stepP ts[th] (stAt ts[th] (begL ts[th]) l) kd ar = R at *
      generalize stAt ts[th] (begL ts[th]) l = s9 at *
      have hbk1 : hD.set th ⟨aD, l.length, cD⟩ = hD := by rw [← hhD, List.set_getElem_self]
      have hbk2 : s.dn.set th l = s.dn := by rw [← hl, List.set_getElem_self]
      by_cases hR : R.2.2 = 0
      · rw [if_neg (by simp [hR])] at hsk
        have eA : s'.evs = s.evs := by rw [hsk]
        have eB : s'.sts = s.sts ++ [⟨pc, R.2.1⟩] := by rw [hsk]
        have eL : ((s'.calls : Nat) : Int) = (s.calls : Int) := by rw [hsk]
        have eD : s'.dn = s.dn.set th (l ++ [⟨kd, ar, 0⟩]) := by rw [hsk]
        have ePe : s'.pe = s.pe.set tu[k].toNat ⟨pk, 2, pc, R.2.1⟩ := by rw [hsk]
        have n1 := dH _ (by simp [hadZ]; try omega) ePe
        have n2 := dC _ rfl ePe
        have n3 : resL s' = (resL s).set tu[k].toNat R.2.1 := by unfold resL; rw [ePe, List.map_set]
        have n4 : stuL s' = stuL s := by unfold stuL; rw [ePe]; exact map_same q1 (by rw [hpp, hs3]; rfl)
        clear hsk dH dC dR
        repeat' (first | ((first | with_reducible (first | apply TL_q | apply TD_q0 | apply TD_q1 | apply TD_q2 | apply TD_q3) | ((with_reducible (first | apply TD_q0y | apply TD_q1y)); exact rfl; exact rfl; (with_reducible exact rfl))); (first | ((with_reducible apply QS_load); exact rfl; exact Lds.rd1 (enc := hdEnc) hD1 (by simp) hqs (by rw [hhq, hdEnc_mk]; rfl)) | ((with_reducible apply QS_load); exact rfl; exact Lds.own1 (enc := intEnc) (by first | ((repeat (first | with_reducible exact List.mem_cons_self | with_reducible apply List.mem_cons_of_mem)); done) | (repeat (first | exact List.Mem.head _ | apply List.Mem.tail))) (by intro x; rfl) (by omega) (by rw [eR]; rfl)) | ((with_reducible apply QS_quo3 eH); exact rfl; exact rfl; omega; omega) | ((with_reducible apply QS_rem3 eH); exact rfl; exact rfl; omega) | ((with_reducible apply QS_load); exact rfl; exact Lds.own1 (enc := hdEnc) (by first | ((repeat (first | with_reducible exact List.mem_cons_self | with_reducible apply List.mem_cons_of_mem)); done) | (repeat (first | exact List.Mem.head _ | apply List.Mem.tail))) (by intro x; rfl) hjl hhead) | ((with_reducible apply QS_load); exact rfl; exact Lds.own1 (enc := boolEnc) (by first | ((repeat (first | with_reducible exact List.mem_cons_self | with_reducible apply List.mem_cons_of_mem)); done) | (repeat (first | exact List.Mem.head _ | apply List.Mem.tail))) (by intro x; rfl) hSn (by rw [eS]; rfl)) | exact QS.auto); exact rfl) | ((with_reducible (first | apply TD_e2z | apply TD_e3z | apply TL_e | apply TD_e2 | apply TD_e3)); (first | ((with_reducible apply ES_makeSlice (enc := hdEnc) (z0 := hd0)); exact rfl; exact rfl; exact rfl; (first | omega | (simp; omega)); decide; exact rfl) | exact ES.auto); (first | exact rfl | exact ⟨rfl, rfl, rfl⟩); (first | (rintro _ _ ⟨rfl, rfl⟩) | (rintro _ _ ⟨g, rfl, rfl⟩) | (rintro _ _ ⟨A', c', rfl, rfl⟩)); (try refine ⟨SUB, ?_⟩)) | (refine GO ?_) | (refine GOE ?_; (first | (rintro _ _ ⟨rfl, rfl⟩) | (rintro _ _ ⟨g, rfl, rfl⟩) | (rintro _ _ ⟨A', c', rfl, rfl⟩))) | ((refine GO2 ?_ ?_) <;> intro h <;> (try (repeat (first | with_reducible (replace h := of_decide_eq_true h) | with_reducible (replace h := of_decide_eq_false h) | with_reducible (replace h := bnt h) | with_reducible (replace h := bnf h) | with_reducible (replace h := Int.not_lt.mp h) | with_reducible (replace h := Int.not_le.mp h) | with_reducible (replace h := band_dec h) | with_reducible (replace h := band_decF h) | with_reducible (replace h := bor_dec h) | with_reducible (replace h := bor_decF h)))) <;> (try (exfalso; first | contradiction | omega))) | ((with_reducible (first | apply TD_e2z | apply TD_e3z | apply TL_e | apply TD_e2 | apply TD_e3)); ((with_reducible apply ES_callX (f := 97) (X := {x : Option Addr × Nat // (x.1 = none → x.2 = 0) ∧ R.1.length ≤ x.2}) (S1 := [entRd intEnc 1 A1 s9]) (fun x => stepV R x.1) (fun x => [entRd intEnc 1 x.1.1 R.1])); exact rfl; ((repeat (first | exact Pull.nil _ | (apply Pull.cons; (repeat (first | with_reducible exact Pick.here _ _ | with_reducible apply Pick.there)))))); (intro x; (try dsimp only); repeat (first | exact AppL.nil _ | apply AppL.cons)); (intro w hw; exact hstep _ _ w hw); exact rfl); (first | exact rfl | exact ⟨rfl, rfl, rfl⟩); (rintro _ _ ⟨⟨⟨A3, c3⟩, hx⟩, rfl, rfl⟩); (try refine ⟨SUB, ?_⟩)) | fail)
        all_goals first | (exfalso; omega) | skip
        repeat' (first
          | ((with_reducible refine T_cutR (X := Option Addr × Nat) 30 (fun y => [(24, .int .i64 R.2.1), (19, .pointer (some ⟨gk, 0, none⟩)), (17, .int .i64 tu[k]), (43, .int .i64 (k : Nat)), (42, .int .i64 tu.length), (41, .slice (some ⟨bB, oB, none⟩) tu.length d0), (8, .slice AE s.evs.length cE), (9, .slice AG s.sts.length cG), (14, .int .i64 (s.calls : Nat)), (10, .slice (some ⟨gH, 0, none⟩) hs.length hs.length), (11, .slice (some ⟨gC, 0, none⟩) hs.length hs.length), (12, .slice (some ⟨gR, 0, none⟩) hs.length hs.length), (13, .slice (some ⟨gS, 0, none⟩) hs.length hs.length), (15, .slice (some ⟨gD, 0, none⟩) ts.length ts.length), (0, .slice (some ⟨bT, oT, none⟩) ts.length c0), (1, .slice (some ⟨bD, oD, none⟩) hs.length e0)]) (fun y => [entOwn Dn.enc 3 197 y.1 y.2 (l ++ [(⟨kd, ar, 0⟩ : Dn)]), entOwn Ev.enc 4 86 AE cE s.evs, entOwn Stp.enc 2 39 AG cG s.sts, entOwn intEnc 1 3 (some ⟨gH, 0, none⟩) hs.length (hadL s), entOwn intEnc 1 3 (some ⟨gC, 0, none⟩) hs.length (callL s), entOwn intEnc 1 3 (some ⟨gR, 0, none⟩) hs.length (resL s), entOwn boolEnc 1 4 (some ⟨gS, 0, none⟩) hs.length (stuL s), entOwn hdEnc 1 195 (some ⟨gD, 0, none⟩) ts.length (hD.set th ⟨y.1, (l ++ [(⟨kd, ar, 0⟩ : Dn)]).length, y.2⟩), entInner Dn.enc 3 197 (hD.set th hd0) (s.dn.set th [])]) (fun _ => True) ?_ ?_))
          | ((first | with_reducible (first | apply TL_q | apply TD_q0 | apply TD_q1 | apply TD_q2 | apply TD_q3) | ((with_reducible (first | apply TD_q0y | apply TD_q1y)); exact rfl; exact rfl; (with_reducible exact rfl))); (first | ((with_reducible apply QS_load); exact rfl; exact Lds.rd1 (enc := hdEnc) hD1 (by simp) hqs (by rw [hhq, hdEnc_mk]; rfl)) | ((with_reducible apply QS_load); exact rfl; exact Lds.own1 (enc := intEnc) (by first | ((repeat (first | with_reducible exact List.mem_cons_self | with_reducible apply List.mem_cons_of_mem)); done) | (repeat (first | exact List.Mem.head _ | apply List.Mem.tail))) (by intro x; rfl) (by omega) (by rw [eR]; rfl)) | ((with_reducible apply QS_quo3 eH); exact rfl; exact rfl; omega; omega) | ((with_reducible apply QS_rem3 eH); exact rfl; exact rfl; omega) | ((with_reducible apply QS_load); exact rfl; exact Lds.own1 (enc := hdEnc) (by first | ((repeat (first | with_reducible exact List.mem_cons_self | with_reducible apply List.mem_cons_of_mem)); done) | (repeat (first | exact List.Mem.head _ | apply List.Mem.tail))) (by intro x; rfl) hjl hhead) | ((with_reducible apply QS_load); exact rfl; exact Lds.own1 (enc := boolEnc) (by first | ((repeat (first | with_reducible exact List.mem_cons_self | with_reducible apply List.mem_cons_of_mem)); done) | (repeat (first | exact List.Mem.head _ | apply List.Mem.tail))) (by intro x; rfl) hSn (by rw [eS]; rfl)) | exact QS.auto); exact rfl) | ((with_reducible (first | apply TD_e2z | apply TD_e3z | apply TL_e | apply TD_e2 | apply TD_e3)); (first | ((with_reducible apply ES_makeSlice (enc := hdEnc) (z0 := hd0)); exact rfl; exact rfl; exact rfl; (first | omega | (simp; omega)); decide; exact rfl) | exact ES.auto); (first | exact rfl | exact ⟨rfl, rfl, rfl⟩); (first | (rintro _ _ ⟨rfl, rfl⟩) | (rintro _ _ ⟨g, rfl, rfl⟩) | (rintro _ _ ⟨A', c', rfl, rfl⟩)); (try refine ⟨SUB, ?_⟩)) | (refine GG ?_) | (refine GE ?_; (first | (rintro _ _ ⟨rfl, rfl⟩) | (rintro _ _ ⟨g, rfl, rfl⟩) | (rintro _ _ ⟨A', c', rfl, rfl⟩)); (try refine ⟨SUB, ?_⟩)) | ((refine GO2 ?_ ?_) <;> intro h <;> (try (repeat (first | with_reducible (replace h := of_decide_eq_true h) | with_reducible (replace h := of_decide_eq_false h) | with_reducible (replace h := bnt h) | with_reducible (replace h := bnf h) | with_reducible (replace h := Int.not_lt.mp h) | with_reducible (replace h := Int.not_le.mp h) | with_reducible (replace h := band_dec h) | with_reducible (replace h := band_decF h) | with_reducible (replace h := bor_dec h) | with_reducible (replace h := bor_decF h)))) <;> (try (exfalso; first | contradiction | omega))) | (refine GOF ?_ ?_) | ((with_reducible apply T_draw (id := 4) 1000 (OT.seq [(0, 0), (0, 1), (0, 3), (0, 4)] (.fork (OT.seq [(2, 2), (0, 6), (2, 5), (0, 7)] .nil) (OT.seq [(2, 5), (2, 2), (0, 6), (0, 7)] .nil)))); kernel_rfl; exact rfl; kernel_rfl; (repeat (first | with_reducible exact Blind.body | with_reducible apply Blind.seq | with_reducible apply Blind.block))) | ((with_reducible apply T_draw (id := 30) 14 (OT.seq [(0, 0), (0, 1), (0, 3), (0, 4), (0, 8), (0, 10), (1, 5), (0, 6), (1, 7), (1, 9), (1, 11), (0, 12)] (.fork (OT.seq [(2, 2), (2, 13), (3, 14), (0, 15), (3, 16)] .nil) (OT.seq [(2, 13)] (.fork (OT.seq [(2, 2), (3, 14), (0, 15), (3, 16)] .nil) (OT.seq [(3, 14), (3, 2), (0, 15), (3, 16)] .nil)))))); kernel_rfl; exact rfl; kernel_rfl; (repeat (first | with_reducible exact Blind.body | with_reducible apply Blind.seq | with_reducible apply Blind.block))) | ((with_reducible apply T_draw (id := 15) 10 (OT.seq [(0, 0), (0, 1), (0, 2), (0, 4), (0, 5), (0, 6), (1, 3), (1, 7), (0, 8), (2, 9), (3, 10), (0, 11)] .nil)); kernel_rfl; exact rfl; kernel_rfl; (repeat (first | with_reducible exact Blind.body | with_reducible apply Blind.seq | with_reducible apply Blind.block))) | ((with_reducible (first | apply TD_e2z | apply TD_e3z | apply TL_e | apply TD_e2 | apply TD_e3)); ((with_reducible apply ES_append1 (enc := Dn.enc) (xx := (⟨kd, ar, 0⟩ : Dn))); exact rfl; exact rfl; (repeat (first | with_reducible exact List.mem_cons_self | with_reducible apply List.mem_cons_of_mem)); exact rfl; exact fun _ => rfl; exact fun _ => rfl; (intro A' c'; first | ((repeat (first | with_reducible exact Upd.here _ _ _ | with_reducible apply Upd.there)); done) | (repeat (first | exact Upd.here _ _ _ | apply Upd.there))); (omega); decide; exact rfl); (first | exact rfl | exact ⟨rfl, rfl, rfl⟩); (rintro _ _ ⟨A', c', rfl, rfl⟩); (try refine ⟨SUB, ?_⟩)) | ((with_reducible (first | apply TD_e2z | apply TD_e3z | apply TL_e | apply TD_e2 | apply TD_e3)); ((with_reducible apply ES_storeOwn1 (xx := (⟨A', (l ++ [(⟨kd, ar, 0⟩ : Dn)]).length, c'⟩ : Hd))); exact rfl; exact rfl; (first | ((repeat (first | with_reducible exact Upd.here _ _ _ | with_reducible apply Upd.there)); done) | (repeat (first | exact Upd.here _ _ _ | apply Upd.there))); exact fun _ => rfl; exact List.getElem?_eq_getElem hjl; exact rfl; exact rfl); (first | exact rfl | exact ⟨rfl, rfl, rfl⟩); (rintro _ _ ⟨rfl, rfl⟩); (try refine ⟨SUB, ?_⟩))
          | (apply At_cut (A', c'); exact trivial; ((repeat (first | exact SubE.nil _ | refine SubE.cons rfl ?_))); (intro w hw; exact hw.sel (by (repeat (first | exact Sel.nil _ | (apply Sel.cons; (repeat (first | with_reducible exact Pick.here _ _ | with_reducible apply Pick.there)))))))) | fail)
        rintro ⟨AL, cL⟩ -
        dsimp only
        have eCo : ((callL s)[tu[k].toNat]'(by omega)) = pc := eC
        repeat' (first | ((first | with_reducible (first | apply TL_q | apply TD_q0 | apply TD_q1 | apply TD_q2 | apply TD_q3) | ((with_reducible (first | apply TD_q0y | apply TD_q1y)); exact rfl; exact rfl; (with_reducible exact rfl))); (first | ((with_reducible apply QS_load); exact rfl; exact Lds.rd1 (enc := hdEnc) hD1 (by simp) hqs (by rw [hhq, hdEnc_mk]; rfl)) | ((with_reducible apply QS_load); exact rfl; exact Lds.own1 (enc := intEnc) (by first | ((repeat (first | with_reducible exact List.mem_cons_self | with_reducible apply List.mem_cons_of_mem)); done) | (repeat (first | exact List.Mem.head _ | apply List.Mem.tail))) (by intro x; rfl) (by omega) (by rw [eR]; rfl)) | ((with_reducible apply QS_quo3 eH); exact rfl; exact rfl; omega; omega) | ((with_reducible apply QS_rem3 eH); exact rfl; exact rfl; omega) | ((with_reducible apply QS_load); exact rfl; exact Lds.own1 (enc := hdEnc) (by first | ((repeat (first | with_reducible exact List.mem_cons_self | with_reducible apply List.mem_cons_of_mem)); done) | (repeat (first | exact List.Mem.head _ | apply List.Mem.tail))) (by intro x; rfl) hjl hhead) | ((with_reducible apply QS_load); exact rfl; exact Lds.own1 (enc := boolEnc) (by first | ((repeat (first | with_reducible exact List.mem_cons_self | with_reducible apply List.mem_cons_of_mem)); done) | (repeat (first | exact List.Mem.head _ | apply List.Mem.tail))) (by intro x; rfl) hSn (by rw [eS]; rfl)) | exact QS.auto); exact rfl) | ((with_reducible (first | apply TD_e2z | apply TD_e3z | apply TL_e | apply TD_e2 | apply TD_e3)); (first | ((with_reducible apply ES_makeSlice (enc := hdEnc) (z0 := hd0)); exact rfl; exact rfl; exact rfl; (first | omega | (simp; omega)); decide; exact rfl) | exact ES.auto); (first | exact rfl | exact ⟨rfl, rfl, rfl⟩); (first | (rintro _ _ ⟨rfl, rfl⟩) | (rintro _ _ ⟨g, rfl, rfl⟩) | (rintro _ _ ⟨A', c', rfl, rfl⟩)); (try refine ⟨SUB, ?_⟩)) | (refine GO ?_) | (refine GOE ?_; (first | (rintro _ _ ⟨rfl, rfl⟩) | (rintro _ _ ⟨g, rfl, rfl⟩) | (rintro _ _ ⟨A', c', rfl, rfl⟩))) | ((refine GO2 ?_ ?_) <;> intro h <;> (try (repeat (first | with_reducible (replace h := of_decide_eq_true h) | with_reducible (replace h := of_decide_eq_false h) | with_reducible (replace h := bnt h) | with_reducible (replace h := bnf h) | with_reducible (replace h := Int.not_lt.mp h) | with_reducible (replace h := Int.not_le.mp h) | with_reducible (replace h := band_dec h) | with_reducible (replace h := band_decF h) | with_reducible (replace h := bor_dec h) | with_reducible (replace h := bor_decF h)))) <;> (try (exfalso; first | contradiction | omega))) | ((with_reducible (first | apply TD_e2z | apply TD_e3z | apply TL_e | apply TD_e2 | apply TD_e3)); ((with_reducible apply ES_append1 (enc := Stp.enc) (xx := (⟨(callL s)[tu[k].toNat]'(by omega), R.2.1⟩ : Stp))); exact rfl; exact rfl; (repeat (first | with_reducible exact List.mem_cons_self | with_reducible apply List.mem_cons_of_mem)); exact rfl; exact fun _ => rfl; exact fun _ => rfl; (intro A' c'; first | ((repeat (first | with_reducible exact Upd.here _ _ _ | with_reducible apply Upd.there)); done) | (repeat (first | exact Upd.here _ _ _ | apply Upd.there))); (omega); decide; exact rfl); (first | exact rfl | exact ⟨rfl, rfl, rfl⟩); (rintro _ _ ⟨A', c', rfl, rfl⟩); (try refine ⟨SUB, ?_⟩)) | fail)
        rw [eCo]
        apply At_rounds (k + 1, (AE, cE), (A', c'), hD.set th ⟨AL, (l ++ [(⟨kd, ar, 0⟩ : Dn)]).length, cL⟩)
        case hE => dsimp only; rw [hs', eA, eB, eL]; (repeat (first | exact SubE.nil _ | refine SubE.cons rfl ?_))
        case hS =>
          intro w' hw
          have h2 := Mem.putRow (A := AL) (c := cL) (l := l ++ [(⟨kd, ar, 0⟩ : Dn)]) (j := th) (by repeat (first | exact Pick.here _ _ | apply Pick.there)) (by first | ((repeat (first | with_reducible exact Upd.here _ _ _ | with_reducible apply Upd.there)); done) | (repeat (first | exact Upd.here _ _ _ | apply Upd.there))) hw
          rw [List.set_set, List.set_set] at h2
          dsimp only
          rw [hs', eA, eB, eD, n1, n2, n3, n4]
          exact h2.sel (by (repeat (first | exact Sel.nil _ | (apply Sel.cons; (repeat (first | with_reducible exact Pick.here _ _ | with_reducible apply Pick.there))))))
        case hμ => (try dsimp only); omega
        case hp => (try dsimp only); omega
      · rw [if_pos hR] at hsk
        have eA : s'.evs = s.evs := by rw [hsk]
        have eB : s'.sts = s.sts := by rw [hsk]
        have eL : ((s'.calls : Nat) : Int) = (s.calls : Int) := by rw [hsk]
        have eD : s'.dn = s.dn := by rw [hsk]
        have ePe : s'.pe = s.pe.set tu[k].toNat ⟨pk, 3, pc, pr⟩ := by rw [hsk]
        have n1 : hadL s' = hadL s := by unfold hadL; rw [ePe]; exact map_same q1 (by rw [hpp, hh]; rfl)
        have n2 := dC _ rfl ePe
        have n3 := dR _ rfl ePe
        have n4 : stuL s' = (stuL s).set tu[k].toNat true := by unfold stuL; rw [ePe, List.map_set]; rfl
        clear hsk dH dC dR
        repeat' (first | ((first | with_reducible (first | apply TL_q | apply TD_q0 | apply TD_q1 | apply TD_q2 | apply TD_q3) | ((with_reducible (first | apply TD_q0y | apply TD_q1y)); exact rfl; exact rfl; (with_reducible exact rfl))); (first | ((with_reducible apply QS_load); exact rfl; exact Lds.rd1 (enc := hdEnc) hD1 (by simp) hqs (by rw [hhq, hdEnc_mk]; rfl)) | ((with_reducible apply QS_load); exact rfl; exact Lds.own1 (enc := intEnc) (by first | ((repeat (first | with_reducible exact List.mem_cons_self | with_reducible apply List.mem_cons_of_mem)); done) | (repeat (first | exact List.Mem.head _ | apply List.Mem.tail))) (by intro x; rfl) (by omega) (by rw [eR]; rfl)) | ((with_reducible apply QS_quo3 eH); exact rfl; exact rfl; omega; omega) | ((with_reducible apply QS_rem3 eH); exact rfl; exact rfl; omega) | ((with_reducible apply QS_load); exact rfl; exact Lds.own1 (enc := hdEnc) (by first | ((repeat (first | with_reducible exact List.mem_cons_self | with_reducible apply List.mem_cons_of_mem)); done) | (repeat (first | exact List.Mem.head _ | apply List.Mem.tail))) (by intro x; rfl) hjl hhead) | ((with_reducible apply QS_load); exact rfl; exact Lds.own1 (enc := boolEnc) (by first | ((repeat (first | with_reducible exact List.mem_cons_self | with_reducible apply List.mem_cons_of_mem)); done) | (repeat (first | exact List.Mem.head _ | apply List.Mem.tail))) (by intro x; rfl) hSn (by rw [eS]; rfl)) | exact QS.auto); exact rfl) | ((with_reducible (first | apply TD_e2z | apply TD_e3z | apply TL_e | apply TD_e2 | apply TD_e3)); (first | ((with_reducible apply ES_makeSlice (enc := hdEnc) (z0 := hd0)); exact rfl; exact rfl; exact rfl; (first | omega | (simp; omega)); decide; exact rfl) | exact ES.auto); (first | exact rfl | exact ⟨rfl, rfl, rfl⟩); (first | (rintro _ _ ⟨rfl, rfl⟩) | (rintro _ _ ⟨g, rfl, rfl⟩) | (rintro _ _ ⟨A', c', rfl, rfl⟩)); (try refine ⟨SUB, ?_⟩)) | (refine GO ?_) | (refine GOE ?_; (first | (rintro _ _ ⟨rfl, rfl⟩) | (rintro _ _ ⟨g, rfl, rfl⟩) | (rintro _ _ ⟨A', c', rfl, rfl⟩))) | ((refine GO2 ?_ ?_) <;> intro h <;> (try (repeat (first | with_reducible (replace h := of_decide_eq_true h) | with_reducible (replace h := of_decide_eq_false h) | with_reducible (replace h := bnt h) | with_reducible (replace h := bnf h) | with_reducible (replace h := Int.not_lt.mp h) | with_reducible (replace h := Int.not_le.mp h) | with_reducible (replace h := band_dec h) | with_reducible (replace h := band_decF h) | with_reducible (replace h := bor_dec h) | with_reducible (replace h := bor_decF h)))) <;> (try (exfalso; first | contradiction | omega))) | ((with_reducible (first | apply TD_e2z | apply TD_e3z | apply TL_e | apply TD_e2 | apply TD_e3)); ((with_reducible apply ES_callX (f := 97) (X := {x : Option Addr × Nat // (x.1 = none → x.2 = 0) ∧ R.1.length ≤ x.2}) (S1 := [entRd intEnc 1 A1 s9]) (fun x => stepV R x.1) (fun x => [entRd intEnc 1 x.1.1 R.1])); exact rfl; ((repeat (first | exact Pull.nil _ | (apply Pull.cons; (repeat (first | with_reducible exact Pick.here _ _ | with_reducible apply Pick.there)))))); (intro x; (try dsimp only); repeat (first | exact AppL.nil _ | apply AppL.cons)); (intro w hw; exact hstep _ _ w hw); exact rfl); (first | exact rfl | exact ⟨rfl, rfl, rfl⟩); (rintro _ _ ⟨⟨⟨A3, c3⟩, hx⟩, rfl, rfl⟩); (try refine ⟨SUB, ?_⟩)) | fail)
        all_goals first | (exfalso; omega) | skip
        apply At_rounds (k + 1, (AE, cE), (AG, cG), hD)
        case hE => dsimp only; rw [hs', eA, eB, eL]; (repeat (first | exact SubE.nil _ | refine SubE.cons rfl ?_))
        case hS =>
          intro w' hw
          have h2 := Mem.putRow (A := aD) (c := cD) (l := l) (j := th) (by repeat (first | exact Pick.here _ _ | apply Pick.there)) (by first | ((repeat (first | with_reducible exact Upd.here _ _ _ | with_reducible apply Upd.there)); done) | (repeat (first | exact Upd.here _ _ _ | apply Upd.there))) hw
          rw [List.set_set, List.set_set, hbk1, hbk2] at h2
          dsimp only
          rw [hs', eA, eB, eD, n1, n2, n3, n4]
          exact h2.sel (by (repeat (first | exact Sel.nil _ | (apply Sel.cons; (repeat (first | with_reducible exact Pick.here _ _ | with_reducible apply Pick.there))))))
        case hμ => (try dsimp only); omega
        case hp => (try dsimp only); omega
  · obtain rfl : k = tu.length := by omega
    repeat' (first | ((first | with_reducible (first | apply TL_q | apply TD_q0 | apply TD_q1 | apply TD_q2 | apply TD_q3) | ((with_reducible (first | apply TD_q0y | apply TD_q1y)); exact rfl; exact rfl; (with_reducible exact rfl))); (first | ((with_reducible apply QS_load); exact rfl; exact Lds.rd1 (enc := hdEnc) hD1 (by simp) hqs (by rw [hhq, hdEnc_mk]; rfl)) | ((with_reducible apply QS_load); exact rfl; exact Lds.own1 (enc := intEnc) (by first | ((repeat (first | with_reducible exact List.mem_cons_self | with_reducible apply List.mem_cons_of_mem)); done) | (repeat (first | exact List.Mem.head _ | apply List.Mem.tail))) (by intro x; rfl) (by omega) (by rw [eR]; rfl)) | ((with_reducible apply QS_quo3 eH); exact rfl; exact rfl; omega; omega) | ((with_reducible apply QS_rem3 eH); exact rfl; exact rfl; omega) | ((with_reducible apply QS_load); exact rfl; exact Lds.own1 (enc := hdEnc) (by first | ((repeat (first | with_reducible exact List.mem_cons_self | with_reducible apply List.mem_cons_of_mem)); done) | (repeat (first | exact List.Mem.head _ | apply List.Mem.tail))) (by intro x; rfl) hjl hhead) | ((with_reducible apply QS_load); exact rfl; exact Lds.own1 (enc := boolEnc) (by first | ((repeat (first | with_reducible exact List.mem_cons_self | with_reducible apply List.mem_cons_of_mem)); done) | (repeat (first | exact List.Mem.head _ | apply List.Mem.tail))) (by intro x; rfl) hSn (by rw [eS]; rfl)) | exact QS.auto); exact rfl) | ((with_reducible (first | apply TD_e2z | apply TD_e3z | apply TL_e | apply TD_e2 | apply TD_e3)); (first | ((with_reducible apply ES_makeSlice (enc := hdEnc) (z0 := hd0)); exact rfl; exact rfl; exact rfl; (first | omega | (simp; omega)); decide; exact rfl) | exact ES.auto); (first | exact rfl | exact ⟨rfl, rfl, rfl⟩); (first | (rintro _ _ ⟨rfl, rfl⟩) | (rintro _ _ ⟨g, rfl, rfl⟩) | (rintro _ _ ⟨A', c', rfl, rfl⟩)); (try refine ⟨SUB, ?_⟩)) | (refine GO ?_) | (refine GOE ?_; (first | (rintro _ _ ⟨rfl, rfl⟩) | (rintro _ _ ⟨g, rfl, rfl⟩) | (rintro _ _ ⟨A', c', rfl, rfl⟩))) | ((refine GO2 ?_ ?_) <;> intro h <;> (try (repeat (first | with_reducible (replace h := of_decide_eq_true h) | with_reducible (replace h := of_decide_eq_false h) | with_reducible (replace h := bnt h) | with_reducible (replace h := bnf h) | with_reducible (replace h := Int.not_lt.mp h) | with_reducible (replace h := Int.not_le.mp h) | with_reducible (replace h := band_dec h) | with_reducible (replace h := band_decF h) | with_reducible (replace h := bor_dec h) | with_reducible (replace h := bor_decF h)))) <;> (try (exfalso; first | contradiction | omega))) | fail)
    (refine At_ret Try.results46 rfl (fun w' hw => ?_))
    exact ⟨((AE, cE), (AG, cG)), rfl, (hw.anyN 0).sel (by (repeat (first | exact Sel.nil _ | (apply Sel.cons; (repeat (first | with_reducible exact Pick.here _ _ | with_reducible apply Pick.there))))))⟩
end
end Go.Proofs.Ytbhjljnbjomnhaa
