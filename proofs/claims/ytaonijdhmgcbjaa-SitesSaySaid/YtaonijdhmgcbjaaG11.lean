/- Lemmas for the walks (SvG, Sv7, Sv8). No condition. -/
import Derived.Test.YtaonijdhmgcbjaaG10
import Derived.Test.YtaonijdhmgcbjaaG07
set_option linter.unusedSimpArgs false
set_option linter.unusedVariables false
set_option linter.unusedSectionVars false
set_option linter.unnecessarySimpa false
namespace Go.Proofs.Ytaonijdhmgcbjaa
open Go.RowKit
theorem QSarm_SvG {p : Prop} (h : p := by (first | ((with_reducible apply QS_load); exact rfl; exact Lds.own (enc := Fq.enc) (by first | ((repeat (first | with_reducible exact List.mem_cons_self | with_reducible apply List.mem_cons_of_mem)); done) | (repeat (first | exact List.Mem.head _ | apply List.Mem.tail))) (by intro x; rfl) hk (by rw [hpk, Fq.enc_mk]; rfl)) | ((with_reducible apply QS_load); exact rfl; exact Lds.own0 (enc := Fq.enc) (by first | ((repeat (first | with_reducible exact List.mem_cons_self | with_reducible apply List.mem_cons_of_mem)); done) | (repeat (first | exact List.Mem.head _ | apply List.Mem.tail))) (by intro x; rfl) hk (by rw [hpk, Fq.enc_mk]; rfl)) | ((with_reducible apply QS_load); exact rfl; exact Lds.setAt (enc := Fq.enc) (by first | ((repeat (first | with_reducible exact List.mem_cons_self | with_reducible apply List.mem_cons_of_mem)); done) | (repeat (first | exact List.Mem.head _ | apply List.Mem.tail))) (by intro x; rfl) (by first | exact hk | (simp only [List.length_set]; exact hk)) (by rw [Fq.enc_mk]; rfl)) | ((with_reducible apply QS_load); exact rfl; exact Lds.setAt0 (enc := Fq.enc) (by first | ((repeat (first | with_reducible exact List.mem_cons_self | with_reducible apply List.mem_cons_of_mem)); done) | (repeat (first | exact List.Mem.head _ | apply List.Mem.tail))) (by intro x; rfl) (by first | exact hk | (simp only [List.length_set]; exact hk)) (by rw [Fq.enc_mk]; rfl)) | ((with_reducible apply QS_load); exact rfl; exact Lds.ownPart2 (enc := Fq.enc) (by first | ((repeat (first | with_reducible exact List.mem_cons_self | with_reducible apply List.mem_cons_of_mem)); done) | (repeat (first | exact List.Mem.head _ | apply List.Mem.tail))) (by intro x; rfl) hk (by rw [hpk, Fq.enc_mk]; rfl) (by rw [hpk, Fq.enc_mk]; rfl)) | ((with_reducible apply QS_load); exact rfl; exact Lds.qPart2 (enc := Fq.enc) (by first | ((repeat (first | with_reducible exact List.mem_cons_self | with_reducible apply List.mem_cons_of_mem)); done) | (repeat (first | exact List.Mem.head _ | apply List.Mem.tail))) (by intro x; rfl) (by first | exact hk | (simp only [List.length_set]; exact hk)) (by rw [Fq.enc_mk]; rfl) (by rw [Fq.enc_mk]; rfl)) | ((with_reducible apply QS_load); exact rfl; exact Lds.own (enc := Fq.enc) (off := 6) (by first | ((repeat (first | with_reducible exact List.mem_cons_self | with_reducible apply List.mem_cons_of_mem)); done) | (repeat (first | exact List.Mem.head _ | apply List.Mem.tail))) (by intro x; rfl) hk (by rw [hpk, Fq.enc_mk]; rfl)) | ((with_reducible apply QS_load); exact rfl; exact Lds.setAt (enc := Fq.enc) (off := 6) (by first | ((repeat (first | with_reducible exact List.mem_cons_self | with_reducible apply List.mem_cons_of_mem)); done) | (repeat (first | exact List.Mem.head _ | apply List.Mem.tail))) (by intro x; rfl) (by first | exact hk | (simp only [List.length_set]; exact hk)) (by rw [Fq.enc_mk]; rfl)) | ((with_reducible apply QS_load); exact rfl; exact Lds.own (enc := Fl.enc) (by first | ((repeat (first | with_reducible exact List.mem_cons_self | with_reducible apply List.mem_cons_of_mem)); done) | (repeat (first | exact List.Mem.head _ | apply List.Mem.tail))) (by intro x; rfl) hi (by rw [hpi, Fl.enc_mk]; rfl)) | ((with_reducible apply QS_load); exact rfl; exact Lds.own0 (enc := Fl.enc) (by first | ((repeat (first | with_reducible exact List.mem_cons_self | with_reducible apply List.mem_cons_of_mem)); done) | (repeat (first | exact List.Mem.head _ | apply List.Mem.tail))) (by intro x; rfl) hi (by rw [hpi, Fl.enc_mk]; rfl)) | ((with_reducible apply QS_load); exact rfl; exact Lds.setAt (enc := Fl.enc) (by first | ((repeat (first | with_reducible exact List.mem_cons_self | with_reducible apply List.mem_cons_of_mem)); done) | (repeat (first | exact List.Mem.head _ | apply List.Mem.tail))) (by intro x; rfl) (by first | exact hi | (simp only [List.length_set]; exact hi)) (by rw [Fl.enc_mk]; rfl)) | ((with_reducible apply QS_load); exact rfl; exact Lds.setAt0 (enc := Fl.enc) (by first | ((repeat (first | with_reducible exact List.mem_cons_self | with_reducible apply List.mem_cons_of_mem)); done) | (repeat (first | exact List.Mem.head _ | apply List.Mem.tail))) (by intro x; rfl) (by first | exact hi | (simp only [List.length_set]; exact hi)) (by rw [Fl.enc_mk]; rfl)) | ((with_reducible apply QS_load); exact rfl; exact Lds.ownPart2 (enc := Fl.enc) (by first | ((repeat (first | with_reducible exact List.mem_cons_self | with_reducible apply List.mem_cons_of_mem)); done) | (repeat (first | exact List.Mem.head _ | apply List.Mem.tail))) (by intro x; rfl) hi (by rw [hpi, Fl.enc_mk]; rfl) (by rw [hpi, Fl.enc_mk]; rfl)) | ((with_reducible apply QS_load); exact rfl; exact Lds.qPart2 (enc := Fl.enc) (by first | ((repeat (first | with_reducible exact List.mem_cons_self | with_reducible apply List.mem_cons_of_mem)); done) | (repeat (first | exact List.Mem.head _ | apply List.Mem.tail))) (by intro x; rfl) (by first | exact hi | (simp only [List.length_set]; exact hi)) (by rw [Fl.enc_mk]; rfl) (by rw [Fl.enc_mk]; rfl)) | ((with_reducible apply QS_load); exact rfl; exact Lds.own (enc := Fl.enc) (off := 5) (by first | ((repeat (first | with_reducible exact List.mem_cons_self | with_reducible apply List.mem_cons_of_mem)); done) | (repeat (first | exact List.Mem.head _ | apply List.Mem.tail))) (by intro x; rfl) hi (by rw [hpi, Fl.enc_mk]; rfl)) | ((with_reducible apply QS_load); exact rfl; exact Lds.setAt (enc := Fl.enc) (off := 5) (by first | ((repeat (first | with_reducible exact List.mem_cons_self | with_reducible apply List.mem_cons_of_mem)); done) | (repeat (first | exact List.Mem.head _ | apply List.Mem.tail))) (by intro x; rfl) (by first | exact hi | (simp only [List.length_set]; exact hi)) (by rw [Fl.enc_mk]; rfl)) | ((with_reducible apply QS_load); exact rfl; exact Lds.rdFs (enc := Ak.enc) (M := 3) hr (by assumption) (by assumption) rfl) | ((with_reducible apply QS_load); exact rfl; exact Lds.rdAggZ (enc := Ak.enc) (M := 3) hr (by intro x; rfl) (by assumption) (by assumption)) | ((with_reducible apply QS_sliceLow (l := 1)); exact rfl; exact rfl; omega) | exact QS.auto)) : p := h
theorem ESarm_SvG {p : Prop} (h : p := by (first | ((with_reducible apply ES_storeOwnPart (enc := Fq.enc)); exact rfl; exact rfl; exact rfl; (first | ((repeat (first | with_reducible exact Upd.here _ _ _ | with_reducible apply Upd.there)); done) | (repeat (first | exact Upd.here _ _ _ | apply Upd.there))); (intro x; rfl); (first | exact List.getElem?_set_self (by first | exact hk | (simp only [List.length_set]; exact hk)) | exact hpk1); decide; exact (Fq.enc_mk _ _ _ _ _ _ _ _ _ _).symm; exact rfl) | ((with_reducible apply ES_storeOwn (enc := Fq.enc)); exact rfl; exact rfl; (first | ((repeat (first | with_reducible exact Upd.here _ _ _ | with_reducible apply Upd.there)); done) | (repeat (first | exact Upd.here _ _ _ | apply Upd.there))); (intro x; rfl); (first | exact List.getElem?_set_self (by first | exact hk | (simp only [List.length_set]; exact hk)) | exact hpk1); decide; exact Fq.enc_mk _ _ _ _ _ _ _ _ _ _; exact rfl) | ((with_reducible apply ES_storeOwn0 (enc := Fq.enc)); exact rfl; exact rfl; (first | ((repeat (first | with_reducible exact Upd.here _ _ _ | with_reducible apply Upd.there)); done) | (repeat (first | exact Upd.here _ _ _ | apply Upd.there))); (intro x; rfl); (first | exact List.getElem?_set_self (by first | exact hk | (simp only [List.length_set]; exact hk)) | exact hpk1); decide; exact Fq.enc_mk _ _ _ _ _ _ _ _ _ _; exact rfl) | ((with_reducible apply ES_storeOwnPart (enc := Fl.enc)); exact rfl; exact rfl; exact rfl; (first | ((repeat (first | with_reducible exact Upd.here _ _ _ | with_reducible apply Upd.there)); done) | (repeat (first | exact Upd.here _ _ _ | apply Upd.there))); (intro x; rfl); (first | exact List.getElem?_set_self (by first | exact hi | (simp only [List.length_set]; exact hi)) | exact hpi1); decide; exact (Fl.enc_mk _ _ _ _ _ _ _ _ _).symm; exact rfl) | ((with_reducible apply ES_storeOwn (enc := Fl.enc)); exact rfl; exact rfl; (first | ((repeat (first | with_reducible exact Upd.here _ _ _ | with_reducible apply Upd.there)); done) | (repeat (first | exact Upd.here _ _ _ | apply Upd.there))); (intro x; rfl); (first | exact List.getElem?_set_self (by first | exact hi | (simp only [List.length_set]; exact hi)) | exact hpi1); decide; exact Fl.enc_mk _ _ _ _ _ _ _ _ _; exact rfl) | ((with_reducible apply ES_storeOwn0 (enc := Fl.enc)); exact rfl; exact rfl; (first | ((repeat (first | with_reducible exact Upd.here _ _ _ | with_reducible apply Upd.there)); done) | (repeat (first | exact Upd.here _ _ _ | apply Upd.there))); (intro x; rfl); (first | exact List.getElem?_set_self (by first | exact hi | (simp only [List.length_set]; exact hi)) | exact hpi1); decide; exact Fl.enc_mk _ _ _ _ _ _ _ _ _; exact rfl) | exact ES.auto)) : p := h
theorem DRarm0_SvG {p R : Prop} (r : R) (h : Rest R → p := by intro r; first | ((with_reducible apply T_draw (id := 4) 1000 (OT.seq [(0, 0), (0, 1), (0, 2), (0, 4), (0, 5), (0, 6), (1, 3), (1, 7), (0, 8), (0, 9)] .nil)); kernel_rfl; exact rfl; kernel_rfl; (repeat (first | with_reducible exact Blind.body | with_reducible apply Blind.seq | with_reducible apply Blind.block | with_reducible assumption)); exact r.out) | ((with_reducible apply T_draw (id := 5) 1000 (OT.seq [(0, 0), (0, 1), (0, 2), (1, 3), (0, 4), (0, 5), (0, 6), (0, 7), (0, 8), (0, 10), (0, 11), (0, 12), (1, 9), (1, 13), (0, 14), (0, 15)] .nil)); kernel_rfl; exact rfl; kernel_rfl; (repeat (first | with_reducible exact Blind.body | with_reducible apply Blind.seq | with_reducible apply Blind.block | with_reducible assumption)); exact r.out) | ((with_reducible apply T_draw (id := 7) 1000 (OT.seq [(0, 0), (0, 1), (0, 2), (1, 3), (0, 4), (0, 5), (0, 6), (0, 7), (0, 8), (0, 10), (0, 11), (0, 12), (1, 9), (1, 13), (2, 14), (0, 15), (0, 16)] .nil)); kernel_rfl; exact rfl; kernel_rfl; (repeat (first | with_reducible exact Blind.body | with_reducible apply Blind.seq | with_reducible apply Blind.block | with_reducible assumption)); exact r.out) | ((with_reducible apply T_draw (id := 8) 12 (OT.seq [(0, 0), (0, 1), (0, 2), (0, 3), (0, 4), (0, 6), (0, 7), (0, 8), (1, 5), (1, 9), (0, 10), (0, 11), (3, 12), (0, 13), (0, 14), (3, 15)] .nil)); kernel_rfl; exact rfl; kernel_rfl; (repeat (first | with_reducible exact Blind.body | with_reducible apply Blind.seq | with_reducible apply Blind.block | with_reducible assumption)); exact r.out) | ((with_reducible apply T_draw (id := 9) 1000 (OT.seq [(0, 0), (0, 1), (0, 2), (0, 5), (0, 6), (0, 7), (1, 3), (0, 4), (1, 8), (0, 9), (0, 10)] .nil)); kernel_rfl; exact rfl; kernel_rfl; (repeat (first | with_reducible exact Blind.body | with_reducible apply Blind.seq | with_reducible apply Blind.block | with_reducible assumption)); exact r.out)) : p := h ⟨r⟩
set_option linter.unusedSectionVars false

section
variable (a : NLc) (fast : Bool) (nS : Nat) (x : Option Addr × Nat) (pr : List Fq) (L : List Fl) (evs : List Ev) (y : Option Addr × Nat) (n0 : Nat) (w : World)
  (hM : Mem ⟨n0, blks (nE4 a fast nS pr L evs y x), w⟩ w (nE4 a fast nS pr L evs y x))
include hM
section
variable (i k : Nat) (hi : i < L.length) (hk : k < pr.length) (rnd st : Int) (put : Bool) (s1 w1 v1 : Int) (del rec_ : Bool) (hpi : L[i] = ⟨(k : Nat), rnd, st, put, s1, w1, v1, del, rec_⟩)
include hi hk hpi
section
variable (A : Option Addr) (n c : Nat) (pd : Bool) (rd : Int) (pu : Bool) (rp bs bw bv : Int) (hpk : pr[k] = ⟨⟨A, n, c⟩, pd, rd, pu, rp, bs, bw, bv⟩) (hd : del = true) (hre : rec_ = false)
include hpk hd hre
set_option maxRecDepth 100000 in
set_option maxHeartbeats 8000000 in
theorem back_got (hpd : pd = true) (hrr : rnd = rd) (hrp : 0 ≤ rp) (hrp2 : rp ≤ 100) (hS : nS ≤ 5) (bs' bw' bv' : Int) (hb : (put = false ∧ lessT ⟨bs, bw, 0⟩ ⟨s1, w1, 0⟩ = true ∧ bs' = s1 ∧ bw' = w1 ∧ bv' = v1) ∨ (¬ (put = false ∧ lessT ⟨bs, bw, 0⟩ ⟨s1, w1, 0⟩ = true) ∧ bs' = bs ∧ bw' = bw ∧ bv' = bv))
    (PR pr' : List Fq) (LR L' : List Fl) (evs' : List Ev) (hPR : PR = pr.set k ⟨⟨A, n, c⟩, true, rd, pu, rp + 1, bs', bw', bv'⟩) (hLR : LR = L.set i ⟨(k : Nat), rnd, st, put, s1, w1, v1, true, true⟩)
    (hno : ¬ ((nS : Int) < 2 * (rp + 1)) → pr' = PR ∧ L' = LR ∧ evs' = evs)
    (hnx : (nS : Int) < 2 * (rp + 1) → ∀ (C : Ctx) (R : List Ent) (w' : World), C.F = blks (nE4 a fast nS pr L evs y x) → C.w0 = w → Mem C w' (nE4 a fast nS PR LR evs y x ++ R) → Calls Try.prog 59 #[.pointer (some ⟨a.m, 0, none⟩), .int .i64 (k : Nat)] w' (NPost a fast nS PR LR evs y x pr' L' evs' w')) :
    Calls Try.prog 29 #[.pointer (some ⟨a.m, 0, none⟩), .int .i64 (i : Nat)] w (NPost a fast nS pr L evs y x pr' L' evs' w) := by
  unfold NPost at hnx ⊢
  have hpi1 : L[i]? = some _ := (List.getElem?_eq_getElem hi).trans (congrArg some hpi)
  have hpk1 : pr[k]? = some _ := (List.getElem?_eq_getElem hk).trans (congrArg some hpk)
  have hcp := cmpT_pos ⟨s1, w1, 0⟩ ⟨bs, bw, 0⟩
  generalize blks (nE4 a fast nS pr L evs y x) = F at hM hnx ⊢
  have hPl : PR.length = pr.length := by rw [hPR, List.length_set]
  have hLl : LR.length = L.length := by rw [hLR, List.length_set]
  obtain ⟨am, gS, cS, gP, cP⟩ := a
  obtain ⟨AL, cL⟩ := y
  obtain ⟨AE, cE⟩ := x
  subst hd hre hpd hrr
  refine calls_T F Try.func29 rfl Try.ntmps29 (by simp) (hM.anyN _) ?_
  dsimp only [nE4]
  refine T_own (enc := Fl.enc) (ls := L) (by first | ((repeat (first | with_reducible exact List.mem_cons_self | with_reducible apply List.mem_cons_of_mem)); done) | (repeat (first | exact List.Mem.head _ | apply List.Mem.tail))) (by omega) ?_
  rintro gL rfl
  repeat' (first
    | ((with_reducible refine T_cutIf 7 (X := Unit) (fun _ => [(0, .pointer (some ⟨am, 0, none⟩)), (4, .pointer (some ⟨gL, i * 9, none⟩)), (5, .pointer (some ⟨gP, k * 8, none⟩))]) (fun _ => [entBlk am 79 #[.bool fast, .slice (some ⟨gS, 0, none⟩) nS cS, .slice (some ⟨gP, 0, none⟩) pr.length cP, .slice (some ⟨gL, 0, none⟩) L.length cL, .slice AE evs.length cE], entOwn Fq.enc 8 84 (some ⟨gP, 0, none⟩) cP PR, entOwn Fl.enc 9 134 (some ⟨gL, 0, none⟩) cL LR, entOwn Ev.enc 4 34 AE cE evs]) (fun _ => True) ?_ ?_))
    | ((first | with_reducible (first | apply TL_q | apply TD_q0 | apply TD_q1 | apply TD_q2 | apply TD_q3) | ((with_reducible (first | apply TD_q0y | apply TD_q1y)); exact rfl; exact rfl; (with_reducible exact rfl))); exact QSarm_SvG; exact rfl) | ((with_reducible (first | apply TD_e2z | apply TD_e3z | apply TL_e | apply TD_e2 | apply TD_e3)); exact ESarm_SvG; (first | exact rfl | exact ⟨rfl, rfl, rfl⟩); (first | (rintro _ _ ⟨rfl, rfl⟩) | (rintro _ _ ⟨g, rfl, rfl⟩) | (rintro _ _ ⟨A', c', rfl, rfl⟩)); (try refine ⟨SUB, ?_⟩)) | (refine GG ?_) | (refine GE ?_; (first | (rintro _ _ ⟨rfl, rfl⟩) | (rintro _ _ ⟨g, rfl, rfl⟩) | (rintro _ _ ⟨A', c', rfl, rfl⟩)); (try refine ⟨SUB, ?_⟩)) | ((refine GO2 ?_ ?_) <;> intro h <;> (try (repeat (first | with_reducible (replace h := of_decide_eq_true h) | with_reducible (replace h := of_decide_eq_false h) | with_reducible (replace h := bnt h) | with_reducible (replace h := bnf h) | with_reducible (replace h := Int.not_lt.mp h) | with_reducible (replace h := Int.not_le.mp h) | with_reducible (replace h := band_dec h) | with_reducible (replace h := band_decF h) | with_reducible (replace h := bor_dec h) | with_reducible (replace h := bor_decF h)))) <;> (try (exfalso; first | contradiction | omega))) | (refine GOF ?_ ?_) | (refine DRarm0_SvG ?_) | ((with_reducible (first | apply TD_e2z | apply TD_e3z | apply TL_e | apply TD_e2 | apply TD_e3)); ((with_reducible apply ES_callV (f := 58)); exact rfl; (intro w hw; exact cmpT_any ⟨s1, w1, 0⟩ ⟨bs, bw, 0⟩ w); exact rfl); (first | exact rfl | exact ⟨rfl, rfl, rfl⟩); (rintro _ _ ⟨rfl, rfl⟩); (try refine ⟨SUB, ?_⟩)) | fail)
  · have hl := hcp.1 (by assumption)
    have hpf : put = false := by assumption
    rcases hb with ⟨_, _, rfl, rfl, rfl⟩ | ⟨hx, _⟩
    · apply At_cut ()
      case hp => exact trivial
      case hE => (repeat (first | exact SubE.nil _ | refine SubE.cons rfl ?_))
      case hS =>
        intro w hw
        simp only [List.set_set] at hw
        rw [hPR, hLR]
        exact hw.sel (by (repeat (first | exact Sel.nil _ | (apply Sel.cons; (repeat (first | with_reducible exact Pick.here _ _ | with_reducible apply Pick.there))))))
    · exact absurd ⟨hpf, hl⟩ hx
  · have hl : ¬ lessT ⟨bs, bw, 0⟩ ⟨s1, w1, 0⟩ = true := fun e => by have := hcp.2 e; omega
    rcases hb with ⟨_, hx, _⟩ | ⟨_, rfl, rfl, rfl⟩
    · exact absurd hx hl
    · apply At_cut ()
      case hp => exact trivial
      case hE => (repeat (first | exact SubE.nil _ | refine SubE.cons rfl ?_))
      case hS =>
        intro w hw
        simp only [List.set_set] at hw
        rw [hPR, hLR]
        exact hw.sel (by (repeat (first | exact Sel.nil _ | (apply Sel.cons; (repeat (first | with_reducible exact Pick.here _ _ | with_reducible apply Pick.there))))))
  · have hpf : put = true := by assumption
    rcases hb with ⟨hx, _⟩ | ⟨_, rfl, rfl, rfl⟩
    · rw [hpf] at hx; exact absurd hx (by decide)
    · apply At_cut ()
      case hp => exact trivial
      case hE => (repeat (first | exact SubE.nil _ | refine SubE.cons rfl ?_))
      case hS =>
        intro w hw
        simp only [List.set_set] at hw
        rw [hPR, hLR]
        exact hw.sel (by (repeat (first | exact Sel.nil _ | (apply Sel.cons; (repeat (first | with_reducible exact Pick.here _ _ | with_reducible apply Pick.there))))))
  rintro ⟨⟩ -
  have hk2 : k < PR.length := by omega
  have hi2 : i < LR.length := by omega
  have hpk2 : PR[k] = ⟨⟨A, n, c⟩, true, rnd, pu, rp + 1, bs', bw', bv'⟩ := by subst hPR; simp
  have hpi2 : LR[i] = ⟨(k : Nat), rnd, st, put, s1, w1, v1, true, true⟩ := by subst hLR; simp
  rw [← hPl, ← hLl]
  clear hpk1 hpi1 hcp hb
  have hk0 := hk
  have hi0 := hi
  have hk := hk2
  have hi := hi2
  have hpk0 := hpk
  have hpi0 := hpi
  have hpk := hpk2
  have hpi := hpi2
  by_cases hq : (nS : Int) < 2 * (rp + 1)
  · have hnx := hnx hq
    clear hno
    repeat' (first | ((first | with_reducible (first | apply TL_q | apply TD_q0 | apply TD_q1 | apply TD_q2 | apply TD_q3) | ((with_reducible (first | apply TD_q0y | apply TD_q1y)); exact rfl; exact rfl; (with_reducible exact rfl))); exact QSarm_SvG; exact rfl) | ((with_reducible (first | apply TD_e2z | apply TD_e3z | apply TL_e | apply TD_e2 | apply TD_e3)); exact ESarm_SvG; (first | exact rfl | exact ⟨rfl, rfl, rfl⟩); (first | (rintro _ _ ⟨rfl, rfl⟩) | (rintro _ _ ⟨g, rfl, rfl⟩) | (rintro _ _ ⟨A', c', rfl, rfl⟩)); (try refine ⟨SUB, ?_⟩)) | (refine GG ?_) | (refine GE ?_; (first | (rintro _ _ ⟨rfl, rfl⟩) | (rintro _ _ ⟨g, rfl, rfl⟩) | (rintro _ _ ⟨A', c', rfl, rfl⟩)); (try refine ⟨SUB, ?_⟩)) | ((refine GO2 ?_ ?_) <;> intro h <;> (try (repeat (first | with_reducible (replace h := of_decide_eq_true h) | with_reducible (replace h := of_decide_eq_false h) | with_reducible (replace h := bnt h) | with_reducible (replace h := bnf h) | with_reducible (replace h := Int.not_lt.mp h) | with_reducible (replace h := Int.not_le.mp h) | with_reducible (replace h := band_dec h) | with_reducible (replace h := band_decF h) | with_reducible (replace h := bor_dec h) | with_reducible (replace h := bor_decF h)))) <;> (try (exfalso; first | contradiction | omega))) | (refine GOF ?_ ?_) | (refine DRarm0_SvG ?_) | ((with_reducible (first | apply TD_e2z | apply TD_e3z | apply TL_e | apply TD_e2 | apply TD_e3)); ((with_reducible apply ES_callX (f := 59) (X := (Option Addr × Nat) × (Option Addr × Nat)) (S1 := nE4 ⟨am, gS, cS, gP, cP⟩ fast nS PR LR evs (some ⟨gL, 0, none⟩, cL) (AE, cE)) (fun _ => .tuple #[]) (fun z => nE4 ⟨am, gS, cS, gP, cP⟩ fast nS pr' L' evs' z.1 z.2)); exact rfl; (dsimp only [nE4]; (repeat (first | exact Pull.nil _ | (apply Pull.cons; (repeat (first | with_reducible exact Pick.here _ _ | with_reducible apply Pick.there)))))); (intro z; (dsimp only [nE4]); repeat (first | exact AppL.nil _ | apply AppL.cons)); (intro w hw; exact hnx _ _ w rfl rfl hw); exact rfl); (first | exact rfl | exact ⟨rfl, rfl, rfl⟩); (rintro _ _ ⟨⟨⟨A2, c2⟩, ⟨A3, c3⟩⟩, rfl, rfl⟩); (try refine ⟨SUB, ?_⟩)) | fail)
    all_goals first
      | (exfalso; omega)
      | ((refine At_retN Try.results29 rfl (fun w' hw => ?_)); exact ⟨((A2, c2), (A3, c3)), rfl, (hw.anyN 0).sel (by dsimp only [nE4]; (repeat (first | exact Sel.nil _ | (apply Sel.cons; (repeat (first | with_reducible exact Pick.here _ _ | with_reducible apply Pick.there))))))⟩)
  · obtain ⟨rfl, rfl, rfl⟩ := hno hq
    repeat' (first | ((first | with_reducible (first | apply TL_q | apply TD_q0 | apply TD_q1 | apply TD_q2 | apply TD_q3) | ((with_reducible (first | apply TD_q0y | apply TD_q1y)); exact rfl; exact rfl; (with_reducible exact rfl))); exact QSarm_SvG; exact rfl) | ((with_reducible (first | apply TD_e2z | apply TD_e3z | apply TL_e | apply TD_e2 | apply TD_e3)); exact ESarm_SvG; (first | exact rfl | exact ⟨rfl, rfl, rfl⟩); (first | (rintro _ _ ⟨rfl, rfl⟩) | (rintro _ _ ⟨g, rfl, rfl⟩) | (rintro _ _ ⟨A', c', rfl, rfl⟩)); (try refine ⟨SUB, ?_⟩)) | (refine GG ?_) | (refine GE ?_; (first | (rintro _ _ ⟨rfl, rfl⟩) | (rintro _ _ ⟨g, rfl, rfl⟩) | (rintro _ _ ⟨A', c', rfl, rfl⟩)); (try refine ⟨SUB, ?_⟩)) | ((refine GO2 ?_ ?_) <;> intro h <;> (try (repeat (first | with_reducible (replace h := of_decide_eq_true h) | with_reducible (replace h := of_decide_eq_false h) | with_reducible (replace h := bnt h) | with_reducible (replace h := bnf h) | with_reducible (replace h := Int.not_lt.mp h) | with_reducible (replace h := Int.not_le.mp h) | with_reducible (replace h := band_dec h) | with_reducible (replace h := band_decF h) | with_reducible (replace h := bor_dec h) | with_reducible (replace h := bor_decF h)))) <;> (try (exfalso; first | contradiction | omega))) | (refine GOF ?_ ?_) | (refine DRarm0_SvG ?_) | fail)
    all_goals first
      | (exfalso; omega)
      | ((refine At_retN Try.results29 rfl (fun w' hw => ?_)); exact ⟨((some ⟨gL, 0, none⟩, cL), (AE, cE)), rfl, (hw.anyN 0).sel (by dsimp only [nE4]; (repeat (first | exact Sel.nil _ | (apply Sel.cons; (repeat (first | with_reducible exact Pick.here _ _ | with_reducible apply Pick.there))))))⟩)
end
end
end
end Go.Proofs.Ytaonijdhmgcbjaa

namespace Go.Proofs.Ytaonijdhmgcbjaa
open Go.RowKit

section
variable {n K : Nat} {ps : List (List Ak)} {s : Sv} {c : Cv}
theorem call_sim (hs : SvOk n ps K s) (h : CvOk n ps s c) {w : Nat} (hw : w < ps.length) : CvOk n ps (callV n ps s w) (callC n ps c w) := by
  have hp := h.pe w hw
  have hcl : w < c.pe.length := by rw [h.pel]; exact hw
  unfold callV callC
  rw [hp.pend, hp.next]
  by_cases e : (s.p w).trip = 0 ∧ (s.p w).next < (ps.getD w []).length
  · rw [if_pos e, if_neg (by
      rintro (a | a)
      · rw [e.1] at a; exact absurd a (by decide)
      · omega)]
    refine start_sim (c1 := { c with pe := c.pe.set w { c.p w with pend := true }, evs := _ }) hs h hw (fun _ => rfl) rfl rfl (.inr ⟨true, rfl⟩) ?_ (by rw [h.evs])
    show ((c.pe.set w { c.p w with pend := true }).getD w default).pend = true
    rw [getD_set_eq hcl]
  · rw [if_neg e, if_pos]
    · exact h
    · by_cases a : (s.p w).trip = 0
      · exact .inr (by omega)
      · exact .inl (by simpa using a)
theorem down_sim (h : CvOk n ps s c) {j : Nat} : CvOk n ps { s with at_ := s.at_.set j { s.si j with down := true } } { c with at_ := c.at_.set j { c.si j with down := true } } := by
  refine ⟨?_, h.evs, h.ml, h.le, h.pel, fun w hw => (h.pe w hw).keep rfl (fun _ => rfl) fun _ => rfl⟩
  show c.at_.set j { c.si j with down := true } = s.at_.set j { s.si j with down := true }
  unfold Cv.si Sv.si
  rw [h.at_]
theorem hand_sim (hs : SvOk n ps K s) (h : CvOk n ps s c) {i : Nat} (hi : i < s.ml.length) : CvOk n ps (handV s i) (handC c i) := by
  have hsi : ∀ j, c.si j = s.si j := fun j => by unfold Cv.si Sv.si; rw [h.at_]
  have hil : i < c.ml.length := by rw [h.ml]; exact hi
  have hle := h.le i hi
  unfold handV handC
  rw [hle, hsi]
  by_cases e : (s.le i).st = 0 ∧ (s.si (s.le i).site).down = false
  case neg =>
    rw [if_neg e, if_pos]
    · exact h
    · by_cases a : (s.le i).st = 0
      · right
        show (s.si (s.le i).site).down = true
        have : ¬ (s.si (s.le i).site).down = false := fun b => e ⟨a, b⟩
        simpa using this
      · left
        show decide ((s.le i).st ≠ 0) = true
        simpa using a
  rw [if_pos e, if_neg (c := (lcOf s (s.le i)).del = true ∨ (s.si (lcOf s (s.le i)).site).down = true) (by
    rintro (a | a)
    · have : decide ((s.le i).st ≠ 0) = true := a
      rw [e.1] at this; exact absurd this (by decide)
    · have : (s.si (s.le i).site).down = true := a
      rw [e.2] at this; exact absurd this (by decide))]
  have hkeep : ∀ (m : Ml) (A : List Si), m.trip = (s.le i).trip → m.st = 1 → ∀ v, v < ps.length → PcOk { s with ml := s.ml.set i m, at_ := A } v (c.p v) := fun m A m1 m2 v hv => by
    refine (h.pe v hv).keep rfl (fun _ => rfl) fun _ => ?_
    show backF (s.ml.set i m) _ (s.ml.set i m).length = _
    rw [List.length_set]
    refine backF_congr fun q hq => ?_
    by_cases a : i = q
    · subst a
      rw [getD_set_eq hi, m2]
      have : (s.ml.getD i default).st = 0 := e.1
      rw [this]
      exact ⟨⟨fun b => absurd b.2 (by decide), fun b => absurd b.2 (by decide)⟩, fun b => absurd b.2 (by decide)⟩
    · rw [getD_set_ne a]; exact ⟨Iff.rfl, fun _ => rfl⟩
  have hmk : ∀ (m : Ml) (A : List Si) (L : Lc), m.trip = (s.le i).trip → m.st = 1 → lcOf s m = L → ∀ k, k < (s.ml.set i m).length → (c.ml.set i L).getD k default = lcOf { s with ml := s.ml.set i m, at_ := A } ((s.ml.set i m).getD k default) := fun m A L m1 m2 m3 k hk => by
    by_cases a : i = k
    · subst a
      rw [getD_set_eq hil, getD_set_eq hi, ← m3]; rfl
    · rw [getD_set_ne a, getD_set_ne a]
      rw [List.length_set] at hk
      exact h.le k hk
  by_cases hput : (s.tp (s.le i).trip).put = true
  · have hp1 : (lcOf s (s.le i)).put = true := hput
    have htg : (lcOf s (s.le i)).tg = (s.tp (s.le i).trip).tag := by
      show (if (s.tp (s.le i).trip).put = true then (s.tp (s.le i).trip).tag else (s.le i).got) = _
      rw [if_pos hput]
    have hst : (lcOf s (s.le i)).site = (s.le i).site := rfl
    rw [if_neg (c := (lcOf s (s.le i)).put = false) (by rw [hp1]; decide), htg, hst]
    have hL : lcOf s { s.le i with st := 1, got := (s.si (s.le i).site).tg } = { lcOf s (s.le i) with del := true } := by
      unfold lcOf
      dsimp only
      rw [hput, e.1]; rfl
    by_cases hl : lessT (s.si (s.le i).site).tg (s.tp (s.le i).trip).tag = true
    · rw [if_pos (c := lessT (s.si (s.le i).site).tg (s.tp (s.le i).trip).tag = true) hl, if_pos (c := (s.tp (s.le i).trip).put = true ∧ lessT (s.si (s.le i).site).tg (s.tp (s.le i).trip).tag = true) ⟨hput, hl⟩]
      refine ⟨?_, h.evs, by simp [h.ml], hmk _ _ _ rfl rfl hL, h.pel, hkeep _ _ rfl rfl⟩
      show c.at_.set _ _ = s.at_.set _ _
      rw [h.at_]
    · rw [if_neg (c := lessT (s.si (s.le i).site).tg (s.tp (s.le i).trip).tag = true) hl, if_neg (c := (s.tp (s.le i).trip).put = true ∧ lessT (s.si (s.le i).site).tg (s.tp (s.le i).trip).tag = true) (fun a => hl a.2)]
      exact ⟨h.at_, h.evs, by simp [h.ml], hmk _ _ _ rfl rfl hL, h.pel, hkeep _ _ rfl rfl⟩
  · have hp1 : (lcOf s (s.le i)).put = false := by
      show (s.tp (s.le i).trip).put = false
      simpa using hput
    have hst : (lcOf s (s.le i)).site = (s.le i).site := rfl
    rw [if_pos (c := (lcOf s (s.le i)).put = false) hp1, if_neg (c := (s.tp (s.le i).trip).put = true ∧ lessT (s.si (s.le i).site).tg (s.tp (s.le i).trip).tag = true) (fun a => hput a.1), hst]
    have hL : lcOf s { s.le i with st := 1, got := (s.si (s.le i).site).tg } = { lcOf s (s.le i) with del := true, tg := (s.si (s.le i).site).tg } := by
      unfold lcOf
      dsimp only
      rw [if_neg hput, e.1]; rfl
    exact ⟨h.at_, h.evs, by simp [h.ml], hmk _ _ _ rfl rfl hL, h.pel, hkeep _ _ rfl rfl⟩
/-- an answer -/
theorem resp_sim (h : CvOk n ps s c) {w : Nat} (hw : w < ps.length) (hwl : w < s.pe.length) (v : Int) : CvOk n ps { s with evs := s.evs ++ [⟨(w : Nat), 0, 0, v⟩], pe := s.pe.set w ⟨(s.p w).next + 1, 0, (s.p w).rd + 1⟩ } (respC c w v) := by
  have hcl : w < c.pe.length := by rw [h.pel]; exact hw
  have hp := h.pe w hw
  obtain ⟨s', hs'⟩ : ∃ s' : Sv, s' = { s with evs := s.evs ++ [⟨(w : Nat), 0, 0, v⟩], pe := s.pe.set w ⟨(s.p w).next + 1, 0, (s.p w).rd + 1⟩ } := ⟨_, rfl⟩
  rw [← hs']
  have e1 : s'.tr = s.tr := by rw [hs']
  have e2 : s'.ml = s.ml := by rw [hs']
  have e3 : s'.at_ = s.at_ := by rw [hs']
  have e4 : s'.evs = s.evs ++ [⟨(w : Nat), 0, 0, v⟩] := by rw [hs']
  have e5 : s'.pe = s.pe.set w ⟨(s.p w).next + 1, 0, (s.p w).rd + 1⟩ := by rw [hs']
  clear hs'
  have htp : ∀ T, s'.tp T = s.tp T := fun T => by unfold Sv.tp; rw [e1]
  refine ⟨by rw [e3]; exact h.at_, by rw [e4, ← h.evs]; rfl, by rw [e2]; exact h.ml, fun i hi => ?_, by unfold respC; simp [h.pel], fun u hu => ?_⟩
  · rw [e2] at hi
    have a1 : Cv.le (respC c w v) i = c.le i := rfl
    have a2 : s'.le i = s.le i := by unfold Sv.le; rw [e2]
    rw [a1, a2, h.le i hi]
    unfold lcOf
    simp only [htp]
  · by_cases e : u = w
    · subst e
      have a1 : Cv.p (respC c u v) u = { c.p u with next := (c.p u).next + 1, pend := false, rd := (c.p u).rd + 1 } := getD_set_eq hcl
      have a2 : s'.p u = ⟨(s.p u).next + 1, 0, (s.p u).rd + 1⟩ := by show s'.pe.getD u default = _; rw [e5, getD_set_eq hwl]
      rw [a1]
      have a3 : (s'.p u).trip = 0 := by rw [a2]
      refine ⟨by rw [a2]; dsimp only; rw [hp.next], by rw [a3]; rfl, by rw [a2]; dsimp only; rw [hp.rd], fun a => absurd a3 a, fun a => absurd a3 a, fun a => absurd a3 a, fun a => absurd a3 a⟩
    · have a1 : Cv.p (respC c w v) u = c.p u := getD_set_ne (fun a => e a.symm)
      have a2 : s'.p u = s.p u := by unfold Sv.p; rw [e5, getD_set_ne (fun a => e a.symm)]
      rw [a1]
      exact (h.pe u hu).keep a2 (fun _ => htp _) fun _ => by rw [e2]
/-- a process goes on -/
theorem next_sim (hs : SvOk n ps K s) (h : CvOk n ps s c) {fast : Bool} {w : Nat} (hw : w < ps.length) (htr : (s.p w).trip ≠ 0) (hc : 0 < (backF s.ml ((s.p w).trip - 1) s.ml.length).1) : CvOk n ps (nextV n fast ps s w ((s.p w).trip - 1) (backF s.ml ((s.p w).trip - 1) s.ml.length).2) (nextC n fast ps c w) := by
  have hp := h.pe w hw
  have hwl : w < s.pe.length := by rw [hs.pe]; exact hw
  have hpend : (c.p w).pend = true := by rw [hp.pend]; simpa using htr
  unfold nextV nextC
  dsimp only
  rw [hp.next, hp.put htr]
  obtain ⟨x, hx⟩ : ∃ x, x = (ps.getD w []).getD (s.p w).next default := ⟨_, rfl⟩
  rw [← hx]
  by_cases hput : (s.tp ((s.p w).trip - 1)).put = true
  · have hb := hp.tag htr hput
    rw [hput, if_neg (fun a => by cases a.1), if_neg (fun a => by cases a.1), if_pos rfl]
    by_cases hk : x.kind = 1
    · rw [if_pos hk, if_pos ⟨rfl, hk⟩]
      exact resp_sim h hw hwl 0
    · rw [if_neg hk, if_neg (fun a => hk a.2), if_pos (.inl rfl), hb]
      exact resp_sim h hw hwl _
  · have hpf : (s.tp ((s.p w).trip - 1)).put = false := by simpa using hput
    have hb := hp.best htr hpf
    rw [if_neg (by rw [hp.rep htr]; omega)] at hb
    rw [hpf, if_neg (fun a : false = true ∧ x.kind = 1 => by cases a.1)]
    by_cases hk : x.kind = 1
    · rw [if_pos ⟨rfl, hk⟩, if_neg (by rintro (a | a); exact absurd a (by decide); exact a.1 hk), if_pos hk, hb]
      exact start_sim (E := s.evs) (c1 := c) hs h hw (fun a => by cases a) rfl rfl (.inl rfl) hpend h.evs
    · rw [if_neg (fun a => hk a.2), if_neg hk, if_neg (c := false = true) (by decide), if_neg hk, hb]
      cases fast
      · rw [if_pos ⟨rfl, rfl⟩, if_neg (by rintro (a | a); exact absurd a (by decide); exact absurd a.2 (by decide))]
        exact start_sim (E := s.evs) (c1 := c) hs h hw (fun a => by cases a) rfl rfl (.inl rfl) hpend h.evs
      · rw [if_neg (fun a => by cases a.2), if_pos (.inr ⟨hk, rfl⟩)]
        exact resp_sim h hw hwl _
end
end Go.Proofs.Ytaonijdhmgcbjaa

namespace Go.Proofs.Ytaonijdhmgcbjaa
open Go.RowKit

theorem backF_zero {ml : List Ml} {T : Nat} : ∀ {k : Nat}, (backF ml T k).1 = 0 → (backF ml T k).2 = t0
  | 0, _ => rfl
  | k + 1, h => by
    rw [backF] at h ⊢
    by_cases hc : (ml.getD k default).trip = T ∧ (ml.getD k default).st = 2
    · rw [if_pos hc] at h; dsimp only at h; omega
    · rw [if_neg hc] at h ⊢; exact backF_zero h
section
variable {n K : Nat} {ps : List (List Ak)} {s : Sv} {c : Cv}
/-- the largest one, with one more that is back -/
theorem back_most (hs : SvOk n ps K s) {i : Nat} (hi : i < s.ml.length) (hst : (s.le i).st = 1) : (backF (markV s i).ml (s.le i).trip s.ml.length).2 = if lessT (backF s.ml (s.le i).trip s.ml.length).2 (s.le i).got = true then (s.le i).got else (backF s.ml (s.le i).trip s.ml.length).2 := by
  have hm := mark_ok hs hi hst
  have hll : (markV s i).ml.length = s.ml.length := by simp [markV]
  have hat : ∀ q, q ≠ i → (markV s i).ml.getD q default = s.ml.getD q default := fun q hq => getD_set_ne (fun e => hq e.symm)
  have hii : (markV s i).ml.getD i default = { s.le i with st := 2 } := getD_set_eq hi
  have h0 := most_circ hs (s.le i).trip
  have h1 := most_circ hm (s.le i).trip
  rw [hll] at h1
  replace h1 : circ s (backF (markV s i).ml (s.le i).trip s.ml.length).2 := h1
  obtain ⟨a0, b0⟩ := backF_mx s.ml (s.le i).trip s.ml.length
  obtain ⟨a1, b1⟩ := backF_mx (markV s i).ml (s.le i).trip s.ml.length
  obtain ⟨M0, hM0⟩ : ∃ M, M = (backF s.ml (s.le i).trip s.ml.length).2 := ⟨_, rfl⟩
  obtain ⟨M1, hM1⟩ : ∃ M, M = (backF (markV s i).ml (s.le i).trip s.ml.length).2 := ⟨_, rfl⟩
  rw [← hM0] at a0 b0 h0 ⊢
  rw [← hM1] at a1 b1 h1 ⊢
  have hg : circ s (s.le i).got := hs.cg i hi
  have hN : circ s (if lessT M0 (s.le i).got = true then (s.le i).got else M0) := by split <;> assumption
  have c0 := hs.cr _ h0
  have c1 := hs.cr _ h1
  have cg := hs.cr _ hg
  have e1 : lessT M1 (s.le i).got = false := by
    have := b1 i hi (by rw [hii]) (by rw [hii])
    rw [hii] at this; exact this
  have e2 : lessT M1 M0 = false := by
    rcases a0 with e | ⟨q, q1, q2, q3, q4⟩
    · rw [e, less_no]
      show (0 : Int) < M1.s ∨ (0 : Int) = M1.s ∧ (0 : Int) ≤ M1.w
      omega
    · rw [← q4]
      have hne : q ≠ i := fun e => by
        rw [e] at q3
        have : (s.ml.getD i default).st = 1 := hst
        omega
      have := b1 q q1 (by rw [hat q hne]; exact q2) (by rw [hat q hne]; exact q3)
      rw [hat q hne] at this; exact this
  have e3 : lessT (if lessT M0 (s.le i).got = true then (s.le i).got else M0) M1 = false := by
    rcases a1 with e | ⟨q, q1, q2, q3, q4⟩
    · rw [e, less_no]
      have := hs.cr _ hN
      show (0 : Int) < _ ∨ (0 : Int) = _ ∧ (0 : Int) ≤ _
      omega
    · by_cases hq : q = i
      · subst hq
        rw [hii] at q4
        dsimp only at q4
        rw [← q4]
        split
        · exact less_self _
        · rename_i hl; exact Bool.eq_false_iff.2 hl
      · rw [hat q hq] at q2 q3 q4
        have := b0 q q1 q2 q3
        rw [q4] at this
        split
        · rename_i hl
          exact less_trans_no hl this
        · exact this
  have e4 : lessT M1 (if lessT M0 (s.le i).got = true then (s.le i).got else M0) = false := by split <;> assumption
  rw [less_no] at e3 e4
  exact hs.cu _ _ h1 hN (by omega) (by omega)
/-- a letter is back -/
theorem rec_le (hs : SvOk n ps K s) (h : CvOk n ps s c) {i : Nat} (hi : i < s.ml.length) (hst : (s.le i).st = 1) : ∀ k, k < (markV s i).ml.length → (c.ml.set i { c.le i with rec_ := true }).getD k default = lcOf (markV s i) ((markV s i).le k) := by
  intro k hk
  have hll : (markV s i).ml.length = s.ml.length := by simp [markV]
  have hil : i < c.ml.length := by rw [h.ml]; exact hi
  rw [hll] at hk
  by_cases e : i = k
  · subst e
    rw [getD_set_eq hil, h.le i hi]
    have : Sv.le (markV s i) i = { s.le i with st := 2 } := getD_set_eq hi
    rw [this]
    unfold lcOf
    dsimp only
    rw [hst]; rfl
  · rw [getD_set_ne e]
    have : Sv.le (markV s i) k = s.le k := getD_set_ne e
    rw [this]
    exact h.le k hk
theorem mark_keep {i : Nat} {v : Nat} {p : Pc} (h : PcOk s v p) (hst : (s.le i).st ≠ 2) (hi : i < s.ml.length) (hne : (s.p v).trip ≠ (s.le i).trip + 1) : PcOk (markV s i) v p := by
  refine h.keep rfl (fun _ => rfl) fun a => ?_
  have hll : (markV s i).ml.length = s.ml.length := by simp [markV]
  rw [hll]
  refine backF_congr fun q hq => ?_
  by_cases e : i = q
  · subst e
    have : (markV s i).ml.getD i default = { s.le i with st := 2 } := getD_set_eq hi
    rw [this]
    have h1 : (s.ml.getD i default).st ≠ 2 := hst
    refine ⟨⟨fun b => absurd b.2 h1, fun b => ?_⟩, fun b => absurd b.2 h1⟩
    have : (s.le i).trip = (s.p v).trip - 1 := b.1
    omega
  · have : (markV s i).ml.getD q default = s.ml.getD q default := getD_set_ne e
    rw [this]
    exact ⟨Iff.rfl, fun _ => rfl⟩
theorem stale_sim (hs : SvOk n ps K s) (h : CvOk n ps s c) {i : Nat} (hi : i < s.ml.length) (hst : (s.le i).st = 1) (hne : (s.p (s.tp (s.le i).trip).who).trip ≠ (s.le i).trip + 1) : CvOk n ps (markV s i) { c with ml := c.ml.set i { c.le i with rec_ := true } } := by
  have hT := hs.tripLt hi
  refine ⟨h.at_, h.evs, by simp [markV, h.ml], rec_le hs h hi hst, h.pel, fun v hv => mark_keep (h.pe v hv) (by omega) hi fun e => ?_⟩
  have h2 := (hs.pr v hv).2 (by omega)
  have h3 := h2.2.2.1
  rw [show (s.p v).trip - 1 = (s.le i).trip by omega] at h3
  rw [h3] at hne
  exact hne e
theorem got_sim (hs : SvOk n ps K s) (h : CvOk n ps s c) {i : Nat} (hi : i < s.ml.length) (hst : (s.le i).st = 1) (he : (s.p (s.tp (s.le i).trip).who).trip = (s.le i).trip + 1) : CvOk n ps (markV s i) (gotC c i) := by
  have hT := hs.tripLt hi
  obtain ⟨w, hw⟩ : ∃ w, w = (s.tp (s.le i).trip).who := ⟨_, rfl⟩
  rw [← hw] at he
  have hwp : w < ps.length := by rw [hw]; exact (hs.tw _ hT).1
  have hcl : w < c.pe.length := by rw [h.pel]; exact hwp
  have hll : (markV s i).ml.length = s.ml.length := by simp [markV]
  have hwho : (c.le i).who = w := by rw [h.le i hi, hw]; rfl
  have hp := h.pe w hwp
  have hcnt : (backF (markV s i).ml (s.le i).trip s.ml.length).1 = (backF s.ml (s.le i).trip s.ml.length).1 + 1 := by
    have := backF_mark (T := (s.le i).trip) (m2 := { s.le i with st := 2 }) hi rfl rfl (show (s.ml.getD i default).st ≠ 2 from by have : (s.ml.getD i default).st = 1 := hst; omega) (k := s.ml.length)
    rw [if_pos hi] at this
    exact this
  have hmost := back_most hs hi hst
  refine ⟨h.at_, h.evs, by simp [gotC, markV, h.ml], rec_le hs h hi hst, by simp [gotC, h.pel], fun v hv => ?_⟩
  by_cases e : v = w
  case neg =>
    have : Cv.p (gotC c i) v = c.p v := by
      show (c.pe.set (c.le i).who _).getD v default = _
      rw [hwho, getD_set_ne (fun a => e a.symm)]; rfl
    rw [this]
    refine mark_keep (h.pe v hv) (by omega) hi fun a => ?_
    have h3 := ((hs.pr v hv).2 (by omega)).2.2.1
    rw [show (s.p v).trip - 1 = (s.le i).trip by omega] at h3
    exact e (by rw [hw, h3])
  subst e
  have h0 : (s.p v).trip ≠ 0 := by omega
  have hm1 : (s.p v).trip - 1 = (s.le i).trip := by omega
  have hput := hp.put h0
  have hrep := hp.rep h0
  have htag := hp.tag h0
  have hbest := hp.best h0
  rw [hm1] at hput hrep htag hbest
  have : Cv.p (gotC c i) v = { c.p v with rep := (c.p v).rep + 1, best := if (c.le i).put = false ∧ lessT (c.p v).best (c.le i).tg = true then (c.le i).tg else (c.p v).best } := by
    show (c.pe.set (c.le i).who _).getD v default = _
    rw [hwho, getD_set_eq hcl]
  rw [this]
  have hpm : Sv.p (markV s i) v = s.p v := rfl
  refine ⟨hp.next, hp.pend, hp.rd, fun _ => ?_, fun _ => ?_, fun _ a => ?_, fun _ a => ?_⟩
  · rw [hpm, hm1]; exact hput
  · rw [hpm, hm1, hll, hcnt]
    dsimp only
    rw [hrep]
  · rw [hpm, hm1] at a ⊢
    replace a : (s.tp (s.le i).trip).put = true := a
    dsimp only
    rw [if_neg, htag a]; rfl
    rw [h.le i hi]
    intro b
    have : (s.tp (s.le i).trip).put = false := b.1
    rw [a] at this
    exact absurd this (by decide)
  · rw [hpm, hm1] at a ⊢
    replace a : (s.tp (s.le i).trip).put = false := a
    rw [hll, hmost]
    dsimp only
    have hlp : (c.le i).put = false := by rw [h.le i hi]; exact a
    have hlt : (c.le i).tg = (s.le i).got := by
      rw [h.le i hi]
      show (if (s.tp (s.le i).trip).put = true then (s.tp (s.le i).trip).tag else (s.le i).got) = _
      rw [a]; rfl
    rw [hlt, hlp, if_neg (c := (c.p v).rep + 1 = 0) (by omega), hbest a]
    have cg := hs.cr _ (hs.cg i hi)
    by_cases hz : (c.p v).rep = 0
    · have hM := backF_zero (ml := s.ml) (T := (s.le i).trip) (k := s.ml.length) (by rw [← hrep]; exact hz)
      rw [if_pos hz, if_pos ⟨rfl, less_iff.2 (.inl (by show (-1 : Int) < _; omega))⟩, hM]
      split
      · rfl
      · rename_i hl
        have hl2 := less_no.1 (Bool.eq_false_iff.2 hl)
        replace hl2 : (s.le i).got.s < (0 : Int) ∨ (s.le i).got.s = (0 : Int) ∧ (s.le i).got.w ≤ (0 : Int) := hl2
        exact hs.cu _ _ (hs.cg i hi) (.inl rfl) (by show _ = (0 : Int); omega) (by show _ = (0 : Int); omega)
    · rw [if_neg hz]
      simp only [true_and]
theorem back_sim (hs : SvOk n ps K s) (h : CvOk n ps s c) {fast : Bool} {i : Nat} (hi : i < s.ml.length) : CvOk n ps (backV n fast ps s i) (backC n fast ps c i) := by
  have hT := hs.tripLt hi
  have hml := (hs.ml i hi).2.2
  have hle := h.le i hi
  have hdel : (c.le i).del = decide ((s.le i).st ≠ 0) := by rw [hle]; rfl
  have hrec : (c.le i).rec_ = decide ((s.le i).st = 2) := by rw [hle]; rfl
  have hwho : (c.le i).who = (s.tp (s.le i).trip).who := by rw [hle]; rfl
  have hrnd : (c.le i).rnd = (s.tp (s.le i).trip).rnd := by rw [hle]; rfl
  obtain ⟨hw, hr1, hr2⟩ := hs.tw _ hT
  have hp := h.pe _ hw
  unfold backV backC
  rw [hdel, hrec]
  by_cases hst : (s.le i).st = 1
  case neg =>
    rw [if_pos hst, if_pos]
    · exact h
    · rcases (by omega : (s.le i).st = 0 ∨ (s.le i).st = 2) with e | e <;> rw [e]
      · exact .inl (by decide)
      · exact .inr (by decide)
  rw [if_neg (c := (s.le i).st ≠ 1) (fun a => a hst), hst, if_neg (c := decide ((1 : Nat) ≠ 0) = false ∨ decide ((1 : Nat) = 2) = true) (by decide)]
  dsimp only
  rw [hwho, hrnd, hp.pend, hp.rd]
  have hm := mark_ok hs hi hst
  by_cases he : (s.p (s.tp (s.le i).trip).who).trip = (s.le i).trip + 1
  case neg =>
    rw [if_pos (c := (s.p (s.tp (s.le i).trip).who).trip ≠ (s.le i).trip + 1) he, if_pos (c := decide ((s.p (s.tp (s.le i).trip).who).trip ≠ 0) = false ∨ (s.tp (s.le i).trip).rnd ≠ (s.p (s.tp (s.le i).trip).who).rd)]
    · have h7 := stale_sim hs h hi hst he
      dsimp only at h7
      rw [hwho, hrnd] at h7
      exact h7
    · by_cases h0 : (s.p (s.tp (s.le i).trip).who).trip = 0
      · rw [h0]; exact .inl (by decide)
      · exact .inr fun a => he (hr2 a)
  have hg := got_sim hs h hi hst he
  have hll : (markV s i).ml.length = s.ml.length := by simp [markV]
  have h0 : (s.p (s.tp (s.le i).trip).who).trip ≠ 0 := by omega
  have hrnd2 := ((hs.pr _ hw).2 h0).2.2.2
  rw [he, Nat.add_sub_cancel] at hrnd2
  have hrep := hp.rep h0
  rw [he, Nat.add_sub_cancel] at hrep
  have hcnt : (backF (markV s i).ml (s.le i).trip s.ml.length).1 = (backF s.ml (s.le i).trip s.ml.length).1 + 1 := by
    have := backF_mark (T := (s.le i).trip) (m2 := { s.le i with st := 2 }) hi rfl rfl (show (s.ml.getD i default).st ≠ 2 from by have : (s.ml.getD i default).st = 1 := hst; omega) (k := s.ml.length)
    rw [if_pos hi] at this
    exact this
  rw [if_neg (c := (s.p (s.tp (s.le i).trip).who).trip ≠ (s.le i).trip + 1) (fun a => a he), if_neg (c := decide ((s.p (s.tp (s.le i).trip).who).trip ≠ 0) = false ∨ (s.tp (s.le i).trip).rnd ≠ (s.p (s.tp (s.le i).trip).who).rd) (by
    rintro (a | a)
    · rw [he] at a; simp at a
    · exact a hrnd2), hrep, ← hcnt, hll]
  by_cases hq : (backF (markV s i).ml (s.le i).trip s.ml.length).1 ≤ n / 2
  · rw [if_pos hq, if_neg (c := n < 2 * (backF (markV s i).ml (s.le i).trip s.ml.length).1) (by omega)]
    exact hg
  · rw [if_neg hq, if_pos (c := n < 2 * (backF (markV s i).ml (s.le i).trip s.ml.length).1) (by omega)]
    have := next_sim (fast := fast) hm hg hw (by rw [show Sv.p (markV s i) (s.tp (s.le i).trip).who = s.p (s.tp (s.le i).trip).who from rfl]; exact h0) (by rw [show Sv.p (markV s i) (s.tp (s.le i).trip).who = s.p (s.tp (s.le i).trip).who from rfl, he, Nat.add_sub_cancel, hll]; omega)
    rw [show Sv.p (markV s i) (s.tp (s.le i).trip).who = s.p (s.tp (s.le i).trip).who from rfl, he, Nat.add_sub_cancel, hll] at this
    exact this
theorem act_sim (hs : SvOk n ps K s) (h : CvOk n ps s c) {fast : Bool} {x : Ac} (h1 : x.kind = 1 → x.a.toNat < ps.length) : CvOk n ps (actV n fast ps s x) (actC n fast ps c x) := by
  unfold actV actC
  rw [h.ml]
  split
  · rename_i e; exact call_sim hs h (h1 e)
  split
  · exact down_sim h
  split
  · exact h
  split
  · exact hand_sim hs h (by omega)
  · exact back_sim hs h (by omega)
end
theorem cv0_ok {n : Nat} {ps : List (List Ak)} : CvOk n ps (sv0 n ps.length) (cv0 n ps.length) := by
  refine ⟨rfl, rfl, rfl, fun i hi => absurd hi (by simp [sv0]), by simp [cv0], fun w hw => ?_⟩
  have h1 : Sv.p (sv0 n ps.length) w = ⟨0, 0, 0⟩ := by
    show (List.replicate ps.length (⟨0, 0, 0⟩ : Pv)).getD w default = _
    simp [hw]
  have h2 : Cv.p (cv0 n ps.length) w = ⟨0, false, 0, false, 0, t0⟩ := by
    show (List.replicate ps.length (⟨0, false, 0, false, 0, t0⟩ : Pc)).getD w default = _
    simp [hw]
  have h3 : (Sv.p (sv0 n ps.length) w).trip = 0 := by rw [h1]
  rw [h2]
  exact ⟨by rw [h1], by rw [h1]; rfl, by rw [h1], fun e => absurd h3 e, fun e => absurd h3 e, fun e => absurd h3 e, fun e => absurd h3 e⟩
theorem run_sim {n : Nat} {fast : Bool} {ps : List (List Ak)} (hps : ps.length ≤ 8) {l : List Ac} (hl : ∀ k, k < l.length → actR n ps.length (l.getD k default)) : ∀ k, k ≤ l.length → CvOk n ps (runV n fast ps l k) (runC n fast ps l k)
  | 0, _ => cv0_ok
  | k + 1, hk => by
    have := hl k (by omega)
    exact act_sim (runV_ok hps hl k (by omega)) (run_sim hps hl k (by omega)) (fun e => by have := this.2.2.1 e; omega)
end Go.Proofs.Ytaonijdhmgcbjaa
