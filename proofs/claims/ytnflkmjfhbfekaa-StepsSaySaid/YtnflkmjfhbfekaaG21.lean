/- Lemmas for the walks (St5, St6). No condition. -/
import Derived.Test.YtnflkmjfhbfekaaG20
set_option linter.unusedSimpArgs false
set_option linter.unusedVariables false
set_option linter.unusedSectionVars false
set_option linter.unnecessarySimpa false
namespace Go.Proofs.Ytnflkmjfhbfekaa
open Go.RowKit
set_option linter.unusedSectionVars false

def machV (a : SLc) (algo : Int) (G : List Nat) (m : Mm) (pr : List Sq) (evs : List Ev) (x : Option Addr × Nat) : List Ent :=
  [machB a algo G m pr.length evs.length x, entNd 87 G m, entOwn Sq.enc 10 93 (some ⟨a.gP, 0, none⟩) a.cP pr, entOwn Ev.enc 4 35 x.1 x.2 evs]
theorem ptr_app (G : List Nat) (g : Nat) {i : Nat} (h : i ≤ G.length) : ptr (G ++ [g]) i = ptr G i := by
  cases i with
  | zero => rfl
  | succ i => simp [ptr, List.getElem?_append_left (show i < G.length by omega)]
theorem ptr_last (G : List Nat) (g : Nat) : ptr (G ++ [g]) (G.length + 1) = some ⟨g, 0, none⟩ := by simp [ptr]
def Mm.more (m : Mm) (v : Int) : Mm := { m with val := m.val ++ [v], nxt := m.nxt ++ [0] }
theorem ndRows_app {G : List Nat} {m : Mm} {g : Nat} {v : Int} (hm : MmOk m) (hl : G.length + 1 = m.nxt.length) : ndRows (G ++ [g]) (m.more v) = ndRows G m ++ [[⟨v, none⟩]] := by
  apply List.ext_getElem
  · simp [ndRows]
  · intro i h1 h2
    have hi : i < (G ++ [g]).length := by rwa [ndRows_len] at h1
    have hi2 : i < G.length + 1 := by simpa using hi
    have hvl := hm.len
    rw [ndRows_at h1]
    by_cases e : i < G.length
    · rw [List.getElem_append_left (by rw [ndRows_len]; exact e), ndRows_at (by rw [ndRows_len]; exact e)]
      have h3 : (m.more v).nx (i + 1) = m.nx (i + 1) := by
        simp only [Mm.more, Mm.nx, List.getD_eq_getElem?_getD]
        rw [List.getElem?_append_left (by omega)]
      have h4 : (m.more v).va (i + 1) = m.va (i + 1) := by
        simp only [Mm.more, Mm.va, List.getD_eq_getElem?_getD]
        rw [List.getElem?_append_left (by omega)]
      have h5 := hm.nx (i + 1)
      rw [h3, h4, ptr_app G g (by omega)]
    · obtain rfl : i = G.length := by omega
      rw [List.getElem_append_right (by rw [ndRows_len]; exact Nat.le_refl _)]
      have h3 : (m.more v).nx (G.length + 1) = 0 := by
        simp [Mm.more, Mm.nx, hl]
      have h4 : (m.more v).va (G.length + 1) = v := by
        simp [Mm.more, Mm.va, hl, ← hvl]
      simp [h3, h4, ptr, ndRows_len]
theorem ndHs_app (G : List Nat) (g : Nat) : ndHs (G ++ [g]) = ndHs G ++ [⟨some ⟨g, 0, none⟩, 1, 1⟩] := by simp [ndHs]
section
variable (a : SLc) (algo : Int) (G : List Nat) (m : Mm) (pr : List Sq) (evs : List Ev) (xE : Option Addr × Nat) (k n0 : Nat) (row : List Ak) (w : World) (hk : k < pr.length) (he : evs.length ≤ 1000) (hM : Mem ⟨n0, blks (machV a algo G m pr evs xE), w⟩ w (machV a algo G m pr evs xE))
include hk he hM
set_option maxRecDepth 100000 in
set_option maxHeartbeats 4000000 in
theorem sturn_idle (A : Option Addr) (c : Nat) (cm : Bool) (r i n : Int) (x y z o : Option Addr) (hpk : pr[k] = ⟨⟨A, 0, c⟩, false, cm, r, i, n, x, y, z, o⟩) : Calls Try.prog 35 #[.pointer (some ⟨a.m, 0, none⟩), .int .i64 (k : Nat)] w fun e w' => e = .returned (.tuple #[]) ∧ Mem ⟨0, blks (machV a algo G m pr evs xE), w⟩ w' (machV a algo G m pr evs xE) := by
  generalize blks (machV a algo G m pr evs xE) = F at hM ⊢
  obtain ⟨am, gP, cP⟩ := a
  obtain ⟨AE, cE⟩ := xE
  refine calls_T F Try.func35 rfl Try.ntmps35 (by simp) (hM.anyN _) ?_
  dsimp only [machV]
  repeat' (first | ((first | with_reducible (first | apply TL_q | apply TD_q0 | apply TD_q1 | apply TD_q2 | apply TD_q3) | ((with_reducible (first | apply TD_q0y | apply TD_q1y)); exact rfl; exact rfl; (with_reducible exact rfl))); (first | ((with_reducible apply QS_load); exact rfl; exact Lds.rdF (enc := Ak.enc) (M := 3) hr (by assumption) (by assumption) rfl) | ((with_reducible apply QS_load); exact rfl; exact Lds.rdAggZ (enc := Ak.enc) (M := 3) hr (by intro x; rfl) (by assumption) (by assumption)) | ((with_reducible apply QS_load); exact rfl; exact Lds.own (enc := Sq.enc) (by first | ((repeat (first | with_reducible exact List.mem_cons_self | with_reducible apply List.mem_cons_of_mem)); done) | (repeat (first | exact List.Mem.head _ | apply List.Mem.tail))) (fun _ => rfl) hk (by rw [hpk, Sq.enc_mk]; rfl)) | ((with_reducible apply QS_load); exact rfl; exact Lds.own0 (enc := Sq.enc) (by first | ((repeat (first | with_reducible exact List.mem_cons_self | with_reducible apply List.mem_cons_of_mem)); done) | (repeat (first | exact List.Mem.head _ | apply List.Mem.tail))) (fun _ => rfl) hk (by rw [hpk, Sq.enc_mk]; rfl)) | ((with_reducible apply QS_load); exact rfl; exact Lds.qAt (by first | ((repeat (first | with_reducible exact List.mem_cons_self | with_reducible apply List.mem_cons_of_mem)); done) | (repeat (first | exact List.Mem.head _ | apply List.Mem.tail))) (fun _ => rfl) (by first | exact hk | (simp only [List.length_set]; exact hk)) (by rw [Sq.enc_mk]; rfl)) | ((with_reducible apply QS_load); exact rfl; exact Lds.qAt0 (by first | ((repeat (first | with_reducible exact List.mem_cons_self | with_reducible apply List.mem_cons_of_mem)); done) | (repeat (first | exact List.Mem.head _ | apply List.Mem.tail))) (fun _ => rfl) (by first | exact hk | (simp only [List.length_set]; exact hk)) (by rw [Sq.enc_mk]; rfl)) | ((with_reducible apply QS_sliceLow (l := 1)); exact rfl; exact rfl; omega) | exact QS.auto); exact rfl) | ((with_reducible (first | apply TD_e2z | apply TD_e3z | apply TL_e | apply TD_e2 | apply TD_e3)); (first | ((with_reducible apply ES_storeOwn (enc := Sq.enc)); exact rfl; exact rfl; (first | ((repeat (first | with_reducible exact Upd.here _ _ _ | with_reducible apply Upd.there)); done) | (repeat (first | exact Upd.here _ _ _ | apply Upd.there))); exact fun _ => rfl; ((first | exact List.getElem?_set_self (by first | exact hk | (simp only [List.length_set]; exact hk)) | exact hpk1)); decide; exact Sq.enc_mk _ _ _ _ _ _ _ _ _ _ _ _; exact rfl) | ((with_reducible apply ES_storeOwn0 (enc := Sq.enc)); exact rfl; exact rfl; (first | ((repeat (first | with_reducible exact Upd.here _ _ _ | with_reducible apply Upd.there)); done) | (repeat (first | exact Upd.here _ _ _ | apply Upd.there))); exact fun _ => rfl; ((first | exact List.getElem?_set_self (by first | exact hk | (simp only [List.length_set]; exact hk)) | exact hpk1)); decide; exact Sq.enc_mk _ _ _ _ _ _ _ _ _ _ _ _; exact rfl) | ((with_reducible apply ES_storeOwnAgg (enc := Sq.enc)); exact rfl; exact rfl; exact (Sq.enc_mk _ _ _ _ _ _ _ _ _ _ _ _).symm; (first | ((repeat (first | with_reducible exact Upd.here _ _ _ | with_reducible apply Upd.there)); done) | (repeat (first | exact Upd.here _ _ _ | apply Upd.there))); exact (fun _ => rfl); exact hk; exact rfl) | exact ES.auto); (first | exact rfl | exact ⟨rfl, rfl, rfl⟩); (first | (rintro _ _ ⟨rfl, rfl⟩) | (rintro _ _ ⟨g, rfl, rfl⟩) | (rintro _ _ ⟨A', c', rfl, rfl⟩)); (try refine ⟨SUB, ?_⟩)) | (refine GO ?_) | (refine GOE ?_; (first | (rintro _ _ ⟨rfl, rfl⟩) | (rintro _ _ ⟨g, rfl, rfl⟩) | (rintro _ _ ⟨A', c', rfl, rfl⟩))) | ((refine GO2 ?_ ?_) <;> intro h <;> (try (repeat (first | with_reducible (replace h := of_decide_eq_true h) | with_reducible (replace h := of_decide_eq_false h) | with_reducible (replace h := bnt h) | with_reducible (replace h := bnf h) | with_reducible (replace h := Int.not_lt.mp h) | with_reducible (replace h := Int.not_le.mp h) | with_reducible (replace h := band_dec h) | with_reducible (replace h := band_decF h) | with_reducible (replace h := bor_dec h) | with_reducible (replace h := bor_decF h)))) <;> (try (exfalso; first | contradiction | omega))) | fail)
  (refine At_retN Try.results35 rfl (fun w' hw => ?_))
  exact ⟨rfl, hw.anyN 0⟩
set_option maxRecDepth 100000 in
set_option maxHeartbeats 4000000 in
theorem sturn_end (b o c : Nat) (r i n : Int) (x y z ow : Option Addr) (hpk : pr[k] = ⟨⟨some ⟨b, o, none⟩, row.length, c⟩, true, true, r, i, n, x, y, z, ow⟩) (hr : RdE Ak.enc 3 w (some ⟨b, o, none⟩) row) (h0 : 0 < row.length) (hb : b ∉ blks (machV a algo G m pr evs xE)) : Calls Try.prog 35 #[.pointer (some ⟨a.m, 0, none⟩), .int .i64 (k : Nat)] w fun e w' => ∃ y2 : Option Addr × Nat, e = .returned (.tuple #[]) ∧ Mem ⟨0, blks (machV a algo G m pr evs xE), w⟩ w' (machV a algo G m (pr.set k ⟨⟨some ⟨b, if c = 1 then o else o + 1 * 3, none⟩, row.length - 1, c - 1⟩, false, true, r, i, n, x, y, z, ow⟩) (evs ++ [⟨(k : Nat), 0, 0, r⟩]) y2) := by
  have hpk1 : pr[k]? = some _ := (List.getElem?_eq_getElem hk).trans (congrArg some hpk)
  generalize blks (machV a algo G m pr evs xE) = F at hM hb ⊢
  obtain ⟨am, gP, cP⟩ := a
  obtain ⟨AE, cE⟩ := xE
  refine calls_T F Try.func35 rfl Try.ntmps35 (by simp) (hM.anyN _) ?_
  dsimp only [machV]
  repeat' (first | ((first | with_reducible (first | apply TL_q | apply TD_q0 | apply TD_q1 | apply TD_q2 | apply TD_q3) | ((with_reducible (first | apply TD_q0y | apply TD_q1y)); exact rfl; exact rfl; (with_reducible exact rfl))); (first | ((with_reducible apply QS_load); exact rfl; exact Lds.rdF (enc := Ak.enc) (M := 3) hr (by assumption) (by assumption) rfl) | ((with_reducible apply QS_load); exact rfl; exact Lds.rdAggZ (enc := Ak.enc) (M := 3) hr (by intro x; rfl) (by assumption) (by assumption)) | ((with_reducible apply QS_load); exact rfl; exact Lds.own (enc := Sq.enc) (by first | ((repeat (first | with_reducible exact List.mem_cons_self | with_reducible apply List.mem_cons_of_mem)); done) | (repeat (first | exact List.Mem.head _ | apply List.Mem.tail))) (fun _ => rfl) hk (by rw [hpk, Sq.enc_mk]; rfl)) | ((with_reducible apply QS_load); exact rfl; exact Lds.own0 (enc := Sq.enc) (by first | ((repeat (first | with_reducible exact List.mem_cons_self | with_reducible apply List.mem_cons_of_mem)); done) | (repeat (first | exact List.Mem.head _ | apply List.Mem.tail))) (fun _ => rfl) hk (by rw [hpk, Sq.enc_mk]; rfl)) | ((with_reducible apply QS_load); exact rfl; exact Lds.qAt (by first | ((repeat (first | with_reducible exact List.mem_cons_self | with_reducible apply List.mem_cons_of_mem)); done) | (repeat (first | exact List.Mem.head _ | apply List.Mem.tail))) (fun _ => rfl) (by first | exact hk | (simp only [List.length_set]; exact hk)) (by rw [Sq.enc_mk]; rfl)) | ((with_reducible apply QS_load); exact rfl; exact Lds.qAt0 (by first | ((repeat (first | with_reducible exact List.mem_cons_self | with_reducible apply List.mem_cons_of_mem)); done) | (repeat (first | exact List.Mem.head _ | apply List.Mem.tail))) (fun _ => rfl) (by first | exact hk | (simp only [List.length_set]; exact hk)) (by rw [Sq.enc_mk]; rfl)) | ((with_reducible apply QS_sliceLow (l := 1)); exact rfl; exact rfl; omega) | exact QS.auto); exact rfl) | ((with_reducible (first | apply TD_e2z | apply TD_e3z | apply TL_e | apply TD_e2 | apply TD_e3)); (first | ((with_reducible apply ES_storeOwn (enc := Sq.enc)); exact rfl; exact rfl; (first | ((repeat (first | with_reducible exact Upd.here _ _ _ | with_reducible apply Upd.there)); done) | (repeat (first | exact Upd.here _ _ _ | apply Upd.there))); exact fun _ => rfl; ((first | exact List.getElem?_set_self (by first | exact hk | (simp only [List.length_set]; exact hk)) | exact hpk1)); decide; exact Sq.enc_mk _ _ _ _ _ _ _ _ _ _ _ _; exact rfl) | ((with_reducible apply ES_storeOwn0 (enc := Sq.enc)); exact rfl; exact rfl; (first | ((repeat (first | with_reducible exact Upd.here _ _ _ | with_reducible apply Upd.there)); done) | (repeat (first | exact Upd.here _ _ _ | apply Upd.there))); exact fun _ => rfl; ((first | exact List.getElem?_set_self (by first | exact hk | (simp only [List.length_set]; exact hk)) | exact hpk1)); decide; exact Sq.enc_mk _ _ _ _ _ _ _ _ _ _ _ _; exact rfl) | ((with_reducible apply ES_storeOwnAgg (enc := Sq.enc)); exact rfl; exact rfl; exact (Sq.enc_mk _ _ _ _ _ _ _ _ _ _ _ _).symm; (first | ((repeat (first | with_reducible exact Upd.here _ _ _ | with_reducible apply Upd.there)); done) | (repeat (first | exact Upd.here _ _ _ | apply Upd.there))); exact (fun _ => rfl); exact hk; exact rfl) | exact ES.auto); (first | exact rfl | exact ⟨rfl, rfl, rfl⟩); (first | (rintro _ _ ⟨rfl, rfl⟩) | (rintro _ _ ⟨g, rfl, rfl⟩) | (rintro _ _ ⟨A', c', rfl, rfl⟩)); (try refine ⟨SUB, ?_⟩)) | (refine GG ?_) | (refine GE ?_; (first | (rintro _ _ ⟨rfl, rfl⟩) | (rintro _ _ ⟨g, rfl, rfl⟩) | (rintro _ _ ⟨A', c', rfl, rfl⟩)); (try refine ⟨SUB, ?_⟩)) | ((refine GO2 ?_ ?_) <;> intro h <;> (try (repeat (first | with_reducible (replace h := of_decide_eq_true h) | with_reducible (replace h := of_decide_eq_false h) | with_reducible (replace h := bnt h) | with_reducible (replace h := bnf h) | with_reducible (replace h := Int.not_lt.mp h) | with_reducible (replace h := Int.not_le.mp h) | with_reducible (replace h := band_dec h) | with_reducible (replace h := band_decF h) | with_reducible (replace h := bor_dec h) | with_reducible (replace h := bor_decF h)))) <;> (try (exfalso; first | contradiction | omega))) | (refine GOF ?_ ?_) | ((with_reducible apply T_draw (id := 5) 12 (OT.seq [(0, 0), (0, 1), (0, 2), (0, 3), (0, 5), (0, 6), (0, 8), (1, 4), (1, 7), (1, 9), (0, 10), (2, 11), (3, 12), (0, 13), (0, 14), (3, 15)] .nil)); kernel_rfl; exact rfl; kernel_rfl; (repeat (first | with_reducible exact Blind.body | with_reducible apply Blind.seq | with_reducible apply Blind.block))) | ((with_reducible apply T_draw (id := 6) 11 (OT.seq [(0, 0), (0, 1), (0, 2), (0, 3), (0, 5), (1, 4), (1, 6), (0, 7), (2, 8), (0, 9), (0, 10), (3, 11)] .nil)); kernel_rfl; exact rfl; kernel_rfl; (repeat (first | with_reducible exact Blind.body | with_reducible apply Blind.seq | with_reducible apply Blind.block))) | ((with_reducible apply T_draw (id := 8) 12 (OT.seq [(0, 0), (0, 1), (0, 2), (0, 3), (0, 5), (0, 6), (0, 7), (0, 8), (1, 4), (1, 9), (0, 10), (2, 11), (3, 12), (0, 13), (0, 14), (3, 15)] .nil)); kernel_rfl; exact rfl; kernel_rfl; (repeat (first | with_reducible exact Blind.body | with_reducible apply Blind.seq | with_reducible apply Blind.block))) | ((with_reducible (first | apply TD_e2z | apply TD_e3z | apply TL_e | apply TD_e2 | apply TD_e3)); ((with_reducible apply ES_append1 (enc := Ev.enc) (xx := (⟨(k : Nat), 0, 0, r⟩ : Ev))); exact rfl; exact rfl; (repeat (first | with_reducible exact List.mem_cons_self | with_reducible apply List.mem_cons_of_mem)); exact rfl; exact fun _ => rfl; exact fun _ => rfl; (intro A' c'; first | ((repeat (first | with_reducible exact Upd.here _ _ _ | with_reducible apply Upd.there)); done) | (repeat (first | exact Upd.here _ _ _ | apply Upd.there))); (omega); decide; exact rfl); (first | exact rfl | exact ⟨rfl, rfl, rfl⟩); (rintro _ _ ⟨A', c', rfl, rfl⟩); (try refine ⟨SUB, ?_⟩)) | fail)
  (refine At_retN Try.results35 rfl (fun w' hw => ?_))
  refine ⟨(A', c'), rfl, ?_⟩
  have h9 := hw.anyN 0
  simp only [List.set_set] at h9
  rw [List.length_set]
  exact h9.sel (by (repeat (first | exact Sel.nil _ | (apply Sel.cons; (repeat (first | with_reducible exact Pick.here _ _ | with_reducible apply Pick.there))))))
set_option maxRecDepth 100000 in
set_option maxHeartbeats 4000000 in
theorem sturn_call (b o c : Nat) (cm : Bool) (r i n : Int) (x y z ow : Option Addr) (hpk : pr[k] = ⟨⟨some ⟨b, o, none⟩, row.length, c⟩, false, cm, r, i, n, x, y, z, ow⟩) (hr : RdE Ak.enc 3 w (some ⟨b, o, none⟩) row) (h0 : 0 < row.length) (hb : b ∉ blks (machV a algo G m pr evs xE)) (hmo : MmOk m) (hl : G.length + 1 = m.nxt.length) : Calls Try.prog 35 #[.pointer (some ⟨a.m, 0, none⟩), .int .i64 (k : Nat)] w fun e w' => ∃ y2 : (Option Addr × Nat) × Nat, e = .returned (.tuple #[]) ∧ Mem ⟨0, blks (machV a algo G m pr evs xE), w⟩ w' (machV a algo (G ++ [y2.2]) (m.more row[0].arg) (pr.set k ⟨⟨some ⟨b, o, none⟩, row.length, c⟩, true, false, 0, 1, 0, none, none, none, some ⟨y2.2, 0, none⟩⟩) (evs ++ [⟨(k : Nat), 0, row[0].kind, row[0].arg⟩]) y2.1) := by
  have hpk1 : pr[k]? = some _ := (List.getElem?_eq_getElem hk).trans (congrArg some hpk)
  generalize blks (machV a algo G m pr evs xE) = F at hM hb ⊢
  obtain ⟨am, gP, cP⟩ := a
  obtain ⟨AE, cE⟩ := xE
  refine calls_T F Try.func35 rfl Try.ntmps35 (by simp) (hM.anyN _) ?_
  dsimp only [machV]
  repeat' (first | ((first | with_reducible (first | apply TL_q | apply TD_q0 | apply TD_q1 | apply TD_q2 | apply TD_q3) | ((with_reducible (first | apply TD_q0y | apply TD_q1y)); exact rfl; exact rfl; (with_reducible exact rfl))); (first | ((with_reducible apply QS_load); exact rfl; exact Lds.rdF (enc := Ak.enc) (M := 3) hr (by assumption) (by assumption) rfl) | ((with_reducible apply QS_load); exact rfl; exact Lds.rdAggZ (enc := Ak.enc) (M := 3) hr (by intro x; rfl) (by assumption) (by assumption)) | ((with_reducible apply QS_load); exact rfl; exact Lds.own (enc := Sq.enc) (by first | ((repeat (first | with_reducible exact List.mem_cons_self | with_reducible apply List.mem_cons_of_mem)); done) | (repeat (first | exact List.Mem.head _ | apply List.Mem.tail))) (fun _ => rfl) hk (by rw [hpk, Sq.enc_mk]; rfl)) | ((with_reducible apply QS_load); exact rfl; exact Lds.own0 (enc := Sq.enc) (by first | ((repeat (first | with_reducible exact List.mem_cons_self | with_reducible apply List.mem_cons_of_mem)); done) | (repeat (first | exact List.Mem.head _ | apply List.Mem.tail))) (fun _ => rfl) hk (by rw [hpk, Sq.enc_mk]; rfl)) | ((with_reducible apply QS_load); exact rfl; exact Lds.qAt (by first | ((repeat (first | with_reducible exact List.mem_cons_self | with_reducible apply List.mem_cons_of_mem)); done) | (repeat (first | exact List.Mem.head _ | apply List.Mem.tail))) (fun _ => rfl) (by first | exact hk | (simp only [List.length_set]; exact hk)) (by rw [Sq.enc_mk]; rfl)) | ((with_reducible apply QS_load); exact rfl; exact Lds.qAt0 (by first | ((repeat (first | with_reducible exact List.mem_cons_self | with_reducible apply List.mem_cons_of_mem)); done) | (repeat (first | exact List.Mem.head _ | apply List.Mem.tail))) (fun _ => rfl) (by first | exact hk | (simp only [List.length_set]; exact hk)) (by rw [Sq.enc_mk]; rfl)) | ((with_reducible apply QS_sliceLow (l := 1)); exact rfl; exact rfl; omega) | exact QS.auto); exact rfl) | ((with_reducible (first | apply TD_e2z | apply TD_e3z | apply TL_e | apply TD_e2 | apply TD_e3)); (first | ((with_reducible apply ES_storeOwn (enc := Sq.enc)); exact rfl; exact rfl; (first | ((repeat (first | with_reducible exact Upd.here _ _ _ | with_reducible apply Upd.there)); done) | (repeat (first | exact Upd.here _ _ _ | apply Upd.there))); exact fun _ => rfl; ((first | exact List.getElem?_set_self (by first | exact hk | (simp only [List.length_set]; exact hk)) | exact hpk1)); decide; exact Sq.enc_mk _ _ _ _ _ _ _ _ _ _ _ _; exact rfl) | ((with_reducible apply ES_storeOwn0 (enc := Sq.enc)); exact rfl; exact rfl; (first | ((repeat (first | with_reducible exact Upd.here _ _ _ | with_reducible apply Upd.there)); done) | (repeat (first | exact Upd.here _ _ _ | apply Upd.there))); exact fun _ => rfl; ((first | exact List.getElem?_set_self (by first | exact hk | (simp only [List.length_set]; exact hk)) | exact hpk1)); decide; exact Sq.enc_mk _ _ _ _ _ _ _ _ _ _ _ _; exact rfl) | ((with_reducible apply ES_storeOwnAgg (enc := Sq.enc)); exact rfl; exact rfl; exact (Sq.enc_mk _ _ _ _ _ _ _ _ _ _ _ _).symm; (first | ((repeat (first | with_reducible exact Upd.here _ _ _ | with_reducible apply Upd.there)); done) | (repeat (first | exact Upd.here _ _ _ | apply Upd.there))); exact (fun _ => rfl); exact hk; exact rfl) | exact ES.auto); (first | exact rfl | exact ⟨rfl, rfl, rfl⟩); (first | (rintro _ _ ⟨rfl, rfl⟩) | (rintro _ _ ⟨g, rfl, rfl⟩) | (rintro _ _ ⟨A', c', rfl, rfl⟩)); (try refine ⟨SUB, ?_⟩)) | (refine GG ?_) | (refine GE ?_; (first | (rintro _ _ ⟨rfl, rfl⟩) | (rintro _ _ ⟨g, rfl, rfl⟩) | (rintro _ _ ⟨A', c', rfl, rfl⟩)); (try refine ⟨SUB, ?_⟩)) | ((refine GO2 ?_ ?_) <;> intro h <;> (try (repeat (first | with_reducible (replace h := of_decide_eq_true h) | with_reducible (replace h := of_decide_eq_false h) | with_reducible (replace h := bnt h) | with_reducible (replace h := bnf h) | with_reducible (replace h := Int.not_lt.mp h) | with_reducible (replace h := Int.not_le.mp h) | with_reducible (replace h := band_dec h) | with_reducible (replace h := band_decF h) | with_reducible (replace h := bor_dec h) | with_reducible (replace h := bor_decF h)))) <;> (try (exfalso; first | contradiction | omega))) | (refine GOF ?_ ?_) | ((with_reducible apply T_draw (id := 5) 12 (OT.seq [(0, 0), (0, 1), (0, 2), (0, 3), (0, 5), (0, 6), (0, 8), (1, 4), (1, 7), (1, 9), (0, 10), (2, 11), (3, 12), (0, 13), (0, 14), (3, 15)] .nil)); kernel_rfl; exact rfl; kernel_rfl; (repeat (first | with_reducible exact Blind.body | with_reducible apply Blind.seq | with_reducible apply Blind.block))) | ((with_reducible apply T_draw (id := 6) 11 (OT.seq [(0, 0), (0, 1), (0, 2), (0, 3), (0, 5), (1, 4), (1, 6), (0, 7), (2, 8), (0, 9), (0, 10), (3, 11)] .nil)); kernel_rfl; exact rfl; kernel_rfl; (repeat (first | with_reducible exact Blind.body | with_reducible apply Blind.seq | with_reducible apply Blind.block))) | ((with_reducible apply T_draw (id := 8) 12 (OT.seq [(0, 0), (0, 1), (0, 2), (0, 3), (0, 5), (0, 6), (0, 7), (0, 8), (1, 4), (1, 9), (0, 10), (2, 11), (3, 12), (0, 13), (0, 14), (3, 15)] .nil)); kernel_rfl; exact rfl; kernel_rfl; (repeat (first | with_reducible exact Blind.body | with_reducible apply Blind.seq | with_reducible apply Blind.block))) | ((with_reducible (first | apply TD_e2z | apply TD_e3z | apply TL_e | apply TD_e2 | apply TD_e3)); ((with_reducible apply ES_append1 (enc := Ev.enc) (xx := (⟨(k : Nat), 0, row[0].kind, row[0].arg⟩ : Ev))); exact rfl; exact rfl; (repeat (first | with_reducible exact List.mem_cons_self | with_reducible apply List.mem_cons_of_mem)); exact rfl; exact fun _ => rfl; exact fun _ => rfl; (intro A' c'; first | ((repeat (first | with_reducible exact Upd.here _ _ _ | with_reducible apply Upd.there)); done) | (repeat (first | exact Upd.here _ _ _ | apply Upd.there))); (omega); decide; exact rfl); (first | exact rfl | exact ⟨rfl, rfl, rfl⟩); (rintro _ _ ⟨A', c', rfl, rfl⟩); (try refine ⟨SUB, ?_⟩)) | fail)
  (refine At_retN Try.results35 rfl (fun w' hw => ?_))
  refine ⟨((A', c'), g), rfl, ?_⟩
  have h9 := hw.anyN 0
  have h1 := Mem.asOwn (enc := ndEnc) (M := 2) (g := g) [(⟨row[0].arg, none⟩ : Nd)] (by first | ((repeat (first | with_reducible exact Upd.here _ _ _ | with_reducible apply Upd.there)); done) | (repeat (first | exact Upd.here _ _ _ | apply Upd.there))) rfl (fun _ => rfl) (by simp only [List.length_cons, List.length_nil]; decide) h9
  unfold entNd at h1
  have h2 := Mem.absorb (A := some ⟨g, 0, none⟩) (c := 1) (l := [(⟨row[0].arg, none⟩ : Nd)]) (by repeat (first | exact Pick.here _ _ | apply Pick.there)) (by first | ((repeat (first | with_reducible exact Upd.here _ _ _ | with_reducible apply Upd.there)); done) | (repeat (first | exact Upd.here _ _ _ | apply Upd.there))) h1
  simp only [List.length_cons, List.length_nil, Nat.zero_add] at h2
  rw [← ndHs_app, ← ndRows_app (g := g) hmo hl] at h2
  have c1 := hmo.top
  have c2 := hmo.head
  have c3 := hmo.tail
  dsimp only [machV, machB, entNd]
  rw [List.length_set, show (m.more row[0].arg).n = m.n from rfl, show (m.more row[0].arg).anew = m.anew from rfl, show (m.more row[0].arg).top = m.top from rfl, show (m.more row[0].arg).head = m.head from rfl, show (m.more row[0].arg).tail = m.tail from rfl, ptr_app G g (show m.top ≤ G.length by omega), ptr_app G g (show m.head ≤ G.length by omega), ptr_app G g (show m.tail ≤ G.length by omega)]
  exact h2.sel (by (repeat (first | exact Sel.nil _ | (apply Sel.cons; (repeat (first | with_reducible exact Pick.here _ _ | with_reducible apply Pick.there))))))
set_option maxRecDepth 100000 in
set_option maxHeartbeats 4000000 in
theorem sturn_step (b o c : Nat) (h0 : 0 < row.length) (h : Hn) (hpk : pr[k] = sqOf G (tenB (row[0]'h0).kind) (some ⟨b, o, none⟩) row.length c h) (hr : RdE Ak.enc 3 w (some ⟨b, o, none⟩) row) (hb : b ∉ blks (machV a algo G m pr evs xE)) (hfar : ∀ {w' : World} {C : Ctx} {R : List Ent}, C.F = blks (machV a algo G m pr evs xE) → C.w0 = w → Mem C w' (machS a algo G m pr evs.length xE ++ R) → b ∉ blks (machS a algo G m pr evs.length xE)) (hmo : MmOk m) (hl : G.length + 1 = m.nxt.length) (han : m.anew ≤ 1000) (hka : kindA algo row[0].kind) (hh : HnOk m row[0].kind h) (hn : m.n ≤ 1000) (hx : row[0].kind = 10 → h.x ≤ 1000) : Calls Try.prog 35 #[.pointer (some ⟨a.m, 0, none⟩), .int .i64 (k : Nat)] w fun e w' => ∃ q : {q : Sq // SqTo G (tenB row[0].kind) (some ⟨b, o, none⟩) row.length c (stepS algo row[0].kind m h) q}, e = .returned (.tuple #[]) ∧ Mem ⟨0, blks (machV a algo G m pr evs xE), w⟩ w' (machV a algo G (stepS algo row[0].kind m h).1 (pr.set k q.1) evs xE) := by
  have hc := fun (C : Ctx) (R : List Ent) (w' : World) (h1 : C.F = blks (machV a algo G m pr evs xE)) (h2 : C.w0 = w) (hw : Mem C w' (machS a algo G m pr evs.length xE ++ R)) => step_any a algo G m pr evs.length xE k 0 h b o c row w' hk hmo hl han (hw.self 0) (hw.rdAwayF (by rw [h2]; exact hr) (fun b2 o2 e => by cases e; rw [h1]; exact hb)) h0 (hfar h1 h2 hw) hka hh hn hx hpk
  unfold StPost at hc
  have hlit : pr[k] = ⟨⟨some ⟨b, o, none⟩, row.length, c⟩, true, false, 0, (h.step : Nat) + 1, if tenB row[0].kind = true then (h.x : Nat) else 0, if tenB row[0].kind = true then none else ptr G h.x, ptr G h.y, ptr G h.z, ptr G h.own⟩ := hpk
  generalize stepS algo row[0].kind m h = RR at *
  generalize tenB row[0].kind = TN at *
  have hpk := hlit
  clear hfar
  generalize blks (machV a algo G m pr evs xE) = F at hM hb hc ⊢
  obtain ⟨am, gP, cP⟩ := a
  obtain ⟨AE, cE⟩ := xE
  refine calls_T F Try.func35 rfl Try.ntmps35 (by simp) (hM.anyN _) ?_
  dsimp only [machV]
  repeat' (first | ((first | with_reducible (first | apply TL_q | apply TD_q0 | apply TD_q1 | apply TD_q2 | apply TD_q3) | ((with_reducible (first | apply TD_q0y | apply TD_q1y)); exact rfl; exact rfl; (with_reducible exact rfl))); (first | ((with_reducible apply QS_load); exact rfl; exact Lds.rdF (enc := Ak.enc) (M := 3) hr (by assumption) (by assumption) rfl) | ((with_reducible apply QS_load); exact rfl; exact Lds.rdAggZ (enc := Ak.enc) (M := 3) hr (by intro x; rfl) (by assumption) (by assumption)) | ((with_reducible apply QS_load); exact rfl; exact Lds.own (enc := Sq.enc) (by first | ((repeat (first | with_reducible exact List.mem_cons_self | with_reducible apply List.mem_cons_of_mem)); done) | (repeat (first | exact List.Mem.head _ | apply List.Mem.tail))) (fun _ => rfl) hk (by rw [hpk, Sq.enc_mk]; rfl)) | ((with_reducible apply QS_load); exact rfl; exact Lds.own0 (enc := Sq.enc) (by first | ((repeat (first | with_reducible exact List.mem_cons_self | with_reducible apply List.mem_cons_of_mem)); done) | (repeat (first | exact List.Mem.head _ | apply List.Mem.tail))) (fun _ => rfl) hk (by rw [hpk, Sq.enc_mk]; rfl)) | ((with_reducible apply QS_load); exact rfl; exact Lds.qAt (by first | ((repeat (first | with_reducible exact List.mem_cons_self | with_reducible apply List.mem_cons_of_mem)); done) | (repeat (first | exact List.Mem.head _ | apply List.Mem.tail))) (fun _ => rfl) (by first | exact hk | (simp only [List.length_set]; exact hk)) (by rw [Sq.enc_mk]; rfl)) | ((with_reducible apply QS_load); exact rfl; exact Lds.qAt0 (by first | ((repeat (first | with_reducible exact List.mem_cons_self | with_reducible apply List.mem_cons_of_mem)); done) | (repeat (first | exact List.Mem.head _ | apply List.Mem.tail))) (fun _ => rfl) (by first | exact hk | (simp only [List.length_set]; exact hk)) (by rw [Sq.enc_mk]; rfl)) | ((with_reducible apply QS_sliceLow (l := 1)); exact rfl; exact rfl; omega) | exact QS.auto); exact rfl) | ((with_reducible (first | apply TD_e2z | apply TD_e3z | apply TL_e | apply TD_e2 | apply TD_e3)); (first | ((with_reducible apply ES_storeOwn (enc := Sq.enc)); exact rfl; exact rfl; (first | ((repeat (first | with_reducible exact Upd.here _ _ _ | with_reducible apply Upd.there)); done) | (repeat (first | exact Upd.here _ _ _ | apply Upd.there))); exact fun _ => rfl; ((first | exact List.getElem?_set_self (by first | exact hk | (simp only [List.length_set]; exact hk)) | exact hpk1)); decide; exact Sq.enc_mk _ _ _ _ _ _ _ _ _ _ _ _; exact rfl) | ((with_reducible apply ES_storeOwn0 (enc := Sq.enc)); exact rfl; exact rfl; (first | ((repeat (first | with_reducible exact Upd.here _ _ _ | with_reducible apply Upd.there)); done) | (repeat (first | exact Upd.here _ _ _ | apply Upd.there))); exact fun _ => rfl; ((first | exact List.getElem?_set_self (by first | exact hk | (simp only [List.length_set]; exact hk)) | exact hpk1)); decide; exact Sq.enc_mk _ _ _ _ _ _ _ _ _ _ _ _; exact rfl) | ((with_reducible apply ES_storeOwnAgg (enc := Sq.enc)); exact rfl; exact rfl; exact (Sq.enc_mk _ _ _ _ _ _ _ _ _ _ _ _).symm; (first | ((repeat (first | with_reducible exact Upd.here _ _ _ | with_reducible apply Upd.there)); done) | (repeat (first | exact Upd.here _ _ _ | apply Upd.there))); exact (fun _ => rfl); exact hk; exact rfl) | exact ES.auto); (first | exact rfl | exact ⟨rfl, rfl, rfl⟩); (first | (rintro _ _ ⟨rfl, rfl⟩) | (rintro _ _ ⟨g, rfl, rfl⟩) | (rintro _ _ ⟨A', c', rfl, rfl⟩)); (try refine ⟨SUB, ?_⟩)) | (refine GO ?_) | (refine GOE ?_; (first | (rintro _ _ ⟨rfl, rfl⟩) | (rintro _ _ ⟨g, rfl, rfl⟩) | (rintro _ _ ⟨A', c', rfl, rfl⟩))) | ((refine GO2 ?_ ?_) <;> intro h <;> (try (repeat (first | with_reducible (replace h := of_decide_eq_true h) | with_reducible (replace h := of_decide_eq_false h) | with_reducible (replace h := bnt h) | with_reducible (replace h := bnf h) | with_reducible (replace h := Int.not_lt.mp h) | with_reducible (replace h := Int.not_le.mp h) | with_reducible (replace h := band_dec h) | with_reducible (replace h := band_decF h) | with_reducible (replace h := bor_dec h) | with_reducible (replace h := bor_decF h)))) <;> (try (exfalso; first | contradiction | omega))) | ((with_reducible (first | apply TD_e2z | apply TD_e3z | apply TL_e | apply TD_e2 | apply TD_e3)); ((with_reducible apply ES_callX (f := 71) (X := {q : Sq // SqTo G TN (some ⟨b, o, none⟩) row.length c RR q}) (S1 := machS ⟨am, gP, cP⟩ algo G m pr evs.length (AE, cE)) (fun _ => .tuple #[]) (fun q => machS ⟨am, gP, cP⟩ algo G RR.1 (pr.set k q.1) evs.length (AE, cE))); exact rfl; (dsimp only [machS]; (repeat (first | exact Pull.nil _ | (apply Pull.cons; (repeat (first | with_reducible exact Pick.here _ _ | with_reducible apply Pick.there)))))); (intro q; dsimp only [machS]; repeat (first | exact AppL.nil _ | apply AppL.cons)); (intro w hw; exact hc _ _ w rfl rfl hw); exact rfl); (first | exact rfl | exact ⟨rfl, rfl, rfl⟩); (rintro _ _ ⟨q, rfl, rfl⟩); (try refine ⟨SUB, ?_⟩)) | fail)
  (refine At_retN Try.results35 rfl (fun w' hw => ?_))
  refine ⟨q, rfl, ?_⟩
  rw [List.length_set]
  have h9 := hw.anyN 0
  rw [List.length_set] at h9
  exact h9.sel (by (repeat (first | exact Sel.nil _ | (apply Sel.cons; (repeat (first | with_reducible exact Pick.here _ _ | with_reducible apply Pick.there))))))
end
end Go.Proofs.Ytnflkmjfhbfekaa

namespace Go.Proofs.Ytnflkmjfhbfekaa
open Go.RowKit
set_option linter.unusedSectionVars false

theorem sqOf_app {G : List Nat} {g : Nat} {ten : Bool} {A : Option Addr} {nn cc : Nat} {h : Hn} (h1 : ten = false → h.x ≤ G.length) (h2 : h.y ≤ G.length) (h3 : h.z ≤ G.length) (h4 : h.own ≤ G.length) : sqOf (G ++ [g]) ten A nn cc h = sqOf G ten A nn cc h := by
  unfold sqOf
  rw [ptr_app G g h2, ptr_app G g h3, ptr_app G g h4]
  cases ten with
  | true => rfl
  | false => rw [ptr_app G g (h1 rfl)]
structure SqOk (w : World) (G : List Nat) (row : List Ak) (q : Sq) (p : Sp) : Prop where
  n : q.hd.n = (row.drop p.k).length
  le : q.hd.n ≤ q.hd.c
  rd : RdE Ak.enc 3 w q.hd.a (row.drop p.k)
  op0 : p.op = 0 → q.pend = false
  op1 : p.op = 1 → q = sqOf G (tenB (row.getD p.k default).kind) q.hd.a q.hd.n q.hd.c p.h
  op2 : p.op = 2 → q.pend = true ∧ q.comp = true ∧ q.res = p.res
structure PsOk (ps : List (List Ak)) (w : World) (s : Ss) (G : List Nat) (pr : List Sq) : Prop where
  lp : pr.length = s.pe.length
  lg : G.length + 1 = s.m.nxt.length
  each : ∀ i (h : i < pr.length) (h2 : i < s.pe.length), SqOk w G (ps.getD i []) pr[i] s.pe[i]
theorem PsOk.set {ps : List (List Ak)} {w : World} {s s' : Ss} {G G' : List Nat} {pr : List Sq} {k : Nat} {q : Sq} {p : Sp} (h : PsOk ps w s G pr) (hG : ∀ i (h1 : i < pr.length) (h2 : i < s.pe.length), SqOk w G (ps.getD i []) pr[i] s.pe[i] → SqOk w G' (ps.getD i []) pr[i] s.pe[i]) (hl : G'.length + 1 = s'.m.nxt.length) (hs : s'.pe = s.pe.set k p) (hq : SqOk w G' (ps.getD k []) q p) : PsOk ps w s' G' (pr.set k q) := by
  refine ⟨by simp [hs, h.lp], hl, fun i h1 h2 => ?_⟩
  have h3 : i < pr.length := by simpa using h1
  have h4 : i < s.pe.length := by rw [← h.lp]; exact h3
  simp only [hs, List.getElem_set]
  split
  · rename_i e; subst e; exact hq
  · exact hG i h3 h4 (h.each i h3 h4)
def STPost (a : SLc) (algo : Int) (ps : List (List Ak)) (w : World) (s s' : Ss) (G : List Nat) (pr : List Sq) (x : Option Addr × Nat) (W : World) (e : Ending) (W' : World) : Prop :=
  ∃ y : {y : List Nat × List Sq × (Option Addr × Nat) // PsOk ps w s' y.1 y.2.1}, e = .returned (.tuple #[]) ∧ Mem ⟨0, blks (machV a algo G s.m pr s.evs x), W⟩ W' (machV a algo y.1.1 s'.m y.1.2.1 s'.evs y.1.2.2)
section
variable (a : SLc) (algo : Int) (ps : List (List Ak)) (s : Ss) (K : Nat) (G : List Nat) (pr : List Sq) (x : Option Addr × Nat) (k : Nat) {C : Ctx} {W : World} {R : List Ent}
  (hw : Mem C W (machV a algo G s.m pr s.evs x ++ R)) (hF : C.F = []) (hpl : PsOk ps C.w0 s G pr) (hok : SsOk algo ps K s) (hK : K ≤ 900)
  (hps : ∀ i (hi : i < ps.length) j (hj : j < ps[i].length), askB [algT algo] ps[i][j] = true) (hk : k < ps.length)
include hw hF hpl hok hK hps hk
theorem sturnT_any : Calls Try.prog 35 #[.pointer (some ⟨a.m, 0, none⟩), .int .i64 (k : Nat)] W (STPost a algo ps C.w0 s (stepP2 algo ps s k) G pr x W) := by
  have hk2 : k < s.pe.length := by rw [hok.pe]; exact hk
  have hk1 : k < pr.length := by rw [hpl.lp]; exact hk2
  have hp : s.pe.getD k default = s.pe[k] := by simp [hk2]
  have hr : ps.getD k [] = ps[k] := by simp [hk]
  have hq := hpl.each k hk1 hk2
  have hl := hok.each k hk2
  have hmo := hok.m
  have hnK := hok.n
  have haK := hok.a
  have heK := hok.e
  have hlg := hpl.lg
  rw [hr] at hq hl
  have hself := hw.self 0
  have hfar : ∀ b, b < C.w0.heap.size → b ∉ blks (machV a algo G s.m pr s.evs x) := fun b hb => hw.newBlkF (by rw [hF]; simp) hb
  obtain ⟨qn, qle, qrd, q0, q1, q2⟩ := hq
  unfold STPost
  unfold stepP2
  rw [hp, hr]
  obtain ⟨⟨⟨qA, qm, qcap⟩, pend, cm, rs, it, cn, px, py, pz, po⟩, hpq⟩ : ∃ q, pr[k] = q := ⟨_, rfl⟩
  obtain ⟨⟨pk, op, h, pres⟩, hpp⟩ : ∃ q, s.pe[k] = q := ⟨_, rfl⟩
  rw [hpp] at hl ⊢
  simp only [hpq, hpp] at qn qle qrd q0 q1 q2
  obtain ⟨l1, l2, l3, l4, l5⟩ := hl
  dsimp only at l1 l2 l3 l4 l5 ⊢
  by_cases h1 : ps[k].length ≤ pk
  · rw [if_pos h1]
    have hop : op = 0 := by omega
    obtain rfl := q0 hop
    have h0 : qm = 0 := by rw [qn]; simp; omega
    subst h0
    refine (sturn_idle a algo G s.m pr s.evs x k 0 W hk1 (by omega) hself qA qcap cm rs it cn px py pz po hpq).mono fun e W' ⟨h2, h3⟩ => ?_
    exact ⟨⟨(G, pr, x), hpl⟩, h2, h3⟩
  rw [if_neg h1]
  have hlt : pk < ps[k].length := by omega
  have ha : ps[k].getD pk default = ps[k][pk] := by simp [hlt]
  have h0 : 0 < (ps[k].drop pk).length := by simp; omega
  have hd0 : (ps[k].drop pk)[0] = ps[k][pk] := by simp
  have hka := kindA_of (hps k hk pk hlt)
  rw [ha] at q1 l4 l5 ⊢
  obtain ⟨b, o, rfl, hb⟩ := RdE.open qrd h0
  have hbF := hfar b hb
  have qrdW := hw.rd hF qrd
  subst qn
  by_cases hc0 : op = 0
  · rw [if_pos hc0]
    obtain rfl := q0 hc0
    refine (sturn_call a algo G s.m pr s.evs x k 0 (ps[k].drop pk) W hk1 (by omega) hself b o qcap cm rs it cn px py pz po hpq qrdW h0 hbF hmo hlg).mono fun e W' ⟨y, h2, h4⟩ => ?_
    rw [hd0] at h4
    refine ⟨⟨(G ++ [y.2], pr.set k ⟨⟨some ⟨b, o, none⟩, (ps[k].drop pk).length, qcap⟩, true, false, 0, 1, 0, none, none, none, some ⟨y.2, 0, none⟩⟩, y.1), hpl.set (fun i i1 i2 hi => ?_) (by simp only [List.length_append, List.length_cons, List.length_nil]; omega) rfl (by
      rw [hr]
      refine ⟨rfl, qle, qrd, fun e => by simp at e, fun _ => ?_, fun e => by simp at e⟩
      dsimp only
      rw [hmo.len, ← hlg]
      unfold sqOf
      rw [ptr_last]
      cases tenB (ps[k].getD pk default).kind <;> rfl)⟩, h2, h4⟩
    refine ⟨hi.n, hi.le, hi.rd, hi.op0, fun e => ?_, hi.op2⟩
    have hh := (hok.each i i2).h e
    rw [hi.op1 e]
    have b1 := hh.own
    have b2 := hh.y
    have b3 := hh.z
    refine (sqOf_app (fun ht => ?_) (by omega) (by omega) (by omega)).symm
    have := hh.x (by unfold tenB at ht; exact of_decide_eq_false ht)
    omega
  rw [if_neg hc0]
  by_cases hc1 : op = 1
  · rw [if_pos hc1]
    have hqe := q1 hc1
    have hh := l4 hc1
    have hx := l5 hc1
    refine (sturn_step a algo G s.m pr s.evs x k 0 (ps[k].drop pk) W hk1 (by omega) hself b o qcap h0 h (by rw [hd0]; exact hpq.trans hqe) qrdW hbF (fun hF' h0' hw' => hw'.newBlkF (by rw [hF']; exact hbF) (by
      rw [h0']
      obtain ⟨b2, o2, e2, h5⟩ := RdE.open qrdW h0
      cases e2
      exact h5)) hmo hlg (by omega) (by rw [hd0]; exact hka.2) (by rw [hd0]; exact hh) (by omega) (by rw [hd0]; intro e; have := hx e; omega)).mono fun e W' ⟨q, h2, h4⟩ => ?_
    obtain ⟨q, hqq⟩ := q
    dsimp only at h4
    rw [hd0] at h4 hqq
    have hnl := (stepS_nl algo ps[k][pk].kind s.m h).1
    obtain ⟨r, hrr⟩ : ∃ r, stepS algo ps[k][pk].kind s.m h = r := ⟨_, rfl⟩
    rw [hrr] at h4 hqq hnl ⊢
    obtain ⟨m', h', ov⟩ := r
    dsimp only at h4 hnl ⊢
    unfold SqTo at hqq
    cases ov with
    | none =>
      dsimp only at hqq
      subst hqq
      refine ⟨⟨(G, _, x), hpl.set (s' := ⟨m', s.pe.set k ⟨pk, op, h', pres⟩, s.evs⟩) (G' := G) (q := sqOf G (tenB ps[k][pk].kind) (some ⟨b, o, none⟩) (ps[k].drop pk).length qcap h') (fun i i1 i2 hi => hi) (by dsimp only; omega) rfl (by
        rw [hr]
        exact ⟨rfl, qle, qrd, fun e => absurd e hc0, fun _ => by rw [ha]; rfl, fun e => by dsimp only at e; omega⟩)⟩, h2, h4⟩
    | some v =>
      dsimp only at hqq
      obtain ⟨g1, g2, g3, g4⟩ := hqq
      refine ⟨⟨(G, _, x), hpl.set (s' := ⟨m', s.pe.set k ⟨pk, 2, h', v⟩, s.evs⟩) (G' := G) (q := q) (fun i i1 i2 hi => hi) (by dsimp only; omega) rfl (by
        rw [hr]
        exact ⟨by rw [g1], by rw [g1]; exact qle, by rw [g1]; exact qrd, fun e => by simp at e, fun e => by simp at e, fun _ => ⟨g2, g3, g4⟩⟩)⟩, h2, h4⟩
  rw [if_neg hc1]
  have hc2 : op = 2 := by omega
  obtain ⟨rfl, rfl, rfl⟩ := q2 hc2
  refine (sturn_end a algo G s.m pr s.evs x k 0 (ps[k].drop pk) W hk1 (by omega) hself b o qcap rs it cn px py pz po hpq qrdW h0 hbF).mono fun e W' ⟨y, h2, h4⟩ => ?_
  have hrd' : RdE Ak.enc 3 C.w0 (some ⟨b, if qcap = 1 then o else o + 1 * 3, none⟩) (ps[k].drop (pk + 1)) := by
    by_cases hz : (ps[k].drop (pk + 1)).length = 0
    · rw [List.length_eq_zero_iff] at hz
      rw [hz]
      exact fun i x h => by simp at h
    · have h5 := qrd.drop 1
      rw [List.drop_drop] at h5
      have hc1 : qcap ≠ 1 := by
        simp only [List.length_drop] at hz qle
        omega
      rw [if_neg hc1]
      exact h5
  exact ⟨⟨(G, pr.set k ⟨⟨some ⟨b, if qcap = 1 then o else o + 1 * 3, none⟩, (ps[k].drop pk).length - 1, qcap - 1⟩, false, true, rs, it, cn, px, py, pz, po⟩, y), hpl.set (fun i i1 i2 hi => hi) (by dsimp only; omega) rfl (by
    rw [hr]
    exact ⟨by simp only [List.length_drop]; omega, by dsimp only; omega, hrd', fun _ => rfl, fun e => by simp at e, fun e => by simp at e⟩)⟩, h2, h4⟩
end
end Go.Proofs.Ytnflkmjfhbfekaa
