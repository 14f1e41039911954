/- Lemmas for the walks (SvL, SvM). No condition. -/
import Derived.Test.YtaonijdhmgcbjaaG08
import Derived.Test.YtaonijdhmgcbjaaG05
set_option linter.unusedSimpArgs false
set_option linter.unusedVariables false
set_option linter.unusedSectionVars false
set_option linter.unnecessarySimpa false
namespace Go.Proofs.Ytaonijdhmgcbjaa
open Go.RowKit
set_option linter.unusedSectionVars false

def Tg.enc (t : Tg) : List Value := [.int .i64 t.s, .int .i64 t.w, .int .i64 t.v]
theorem Tg.enc_mk (a b c : Int) : Tg.enc ⟨a, b, c⟩ = [.int .i64 a, .int .i64 b, .int .i64 c] := rfl
def Ml.enc (m : Ml) : List Value := [.int .i64 (m.trip : Nat), .int .i64 (m.site : Nat), .int .i64 (m.st : Nat), .int .i64 m.got.s, .int .i64 m.got.w, .int .i64 m.got.v]
theorem Ml.enc_mk (a b c : Nat) (s w v : Int) : Ml.enc ⟨a, b, c, ⟨s, w, v⟩⟩ = [.int .i64 (a : Nat), .int .i64 (b : Nat), .int .i64 (c : Nat), .int .i64 s, .int .i64 w, .int .i64 v] := rfl
theorem newMl_succ (n T : Nat) : newMl (n + 1) T = newMl n T ++ [⟨T, n, 0, t0⟩] := by
  unfold newMl; rw [List.range_succ, List.map_append]; rfl
set_option maxRecDepth 100000 in
theorem lessT_any (a b : Tg) (w : World) : Calls Try.prog 31 #[.agg (Tg.enc a).toArray, .agg (Tg.enc b).toArray] w fun e w' => e = .returned (.bool (lessT a b)) ∧ Below w.heap.size w w' := by
  obtain ⟨s1, w1, v1⟩ := a
  obtain ⟨s2, w2, v2⟩ := b
  rw [Tg.enc_mk, Tg.enc_mk]
  refine calls_T (S := []) [] Try.func31 rfl Try.ntmps31 (by simp) (Mem.nil _) ?_
  unfold lessT
  dsimp only
  repeat' (first | (refine GO ?_) | (refine GOE ?_; (first | (rintro _ _ ⟨rfl, rfl⟩) | (rintro _ _ ⟨g, rfl, rfl⟩) | (rintro _ _ ⟨A', c', rfl, rfl⟩))) | ((refine GO2 ?_ ?_) <;> intro h <;> (try (repeat (first | with_reducible (replace h := of_decide_eq_true h) | with_reducible (replace h := of_decide_eq_false h) | with_reducible (replace h := bnt h) | with_reducible (replace h := bnf h) | with_reducible (replace h := Int.not_lt.mp h) | with_reducible (replace h := Int.not_le.mp h) | with_reducible (replace h := band_dec h) | with_reducible (replace h := band_decF h) | with_reducible (replace h := bor_dec h) | with_reducible (replace h := bor_decF h)))) <;> (try (exfalso; first | contradiction | omega))) | fail)
  all_goals first
    | (exfalso; omega)
    | ((refine At_ret Try.results31 rfl (fun w' hw => ?_)); refine ⟨?_, hw.below0 rfl⟩; simp only [resVal]; congr 2; rw [Bool.eq_iff_iff]; simp; omega)
section
variable (gw gp gt gr gn gl gR cR : Nat) (a b c d : Option Addr × Nat) (W : List Nat) (P : List Bool) (T : List Tg) (R : List Nat) (n : Nat) (L : List Ml) (k : Nat) (put : Bool) (tg : Tg) (n0 : Nat) (w : World)
  (hk : k < R.length) (hW : W.length ≤ 5000) (hP : P.length ≤ 5000) (hT : T.length ≤ 5000) (hn : n ≤ 5) (hL : L.length ≤ 5000)
  (hM : Mem ⟨n0, blks [entBlk gw 58 #[.slice a.1 W.length a.2], entOwn natEnc 1 3 a.1 a.2 W, entBlk gp 90 #[.slice b.1 P.length b.2], entOwn boolEnc 1 4 b.1 b.2 P, entBlk gt 91 #[.slice c.1 T.length c.2], entOwn Tg.enc 3 92 c.1 c.2 T, entBlk gr 58 #[.slice (some ⟨gR, 0, none⟩) R.length cR], entBlk gn 3 #[.int .i64 (n : Nat)], entOwn natEnc 1 3 (some ⟨gR, 0, none⟩) cR R, entBlk gl 89 #[.slice d.1 L.length d.2], entOwn Ml.enc 6 95 d.1 d.2 L], w⟩ w [entBlk gw 58 #[.slice a.1 W.length a.2], entOwn natEnc 1 3 a.1 a.2 W, entBlk gp 90 #[.slice b.1 P.length b.2], entOwn boolEnc 1 4 b.1 b.2 P, entBlk gt 91 #[.slice c.1 T.length c.2], entOwn Tg.enc 3 92 c.1 c.2 T, entBlk gr 58 #[.slice (some ⟨gR, 0, none⟩) R.length cR], entBlk gn 3 #[.int .i64 (n : Nat)], entOwn natEnc 1 3 (some ⟨gR, 0, none⟩) cR R, entBlk gl 89 #[.slice d.1 L.length d.2], entOwn Ml.enc 6 95 d.1 d.2 L])
include hk hW hP hT hn hL hM
set_option maxRecDepth 100000 in
set_option maxHeartbeats 8000000 in
theorem aboutV_any : Calls Try.prog 32 #[.int .i64 (k : Nat), .bool put, .agg (Tg.enc tg).toArray, .pointer (some ⟨gw, 0, none⟩), .pointer (some ⟨gp, 0, none⟩), .pointer (some ⟨gt, 0, none⟩), .pointer (some ⟨gr, 0, none⟩), .pointer (some ⟨gn, 0, none⟩), .pointer (some ⟨gl, 0, none⟩)] w fun e w' => ∃ y : (Option Addr × Nat) × (Option Addr × Nat) × (Option Addr × Nat) × (Option Addr × Nat), e = .returned (.tuple #[]) ∧
    Mem ⟨0, blks [entBlk gw 58 #[.slice a.1 W.length a.2], entOwn natEnc 1 3 a.1 a.2 W, entBlk gp 90 #[.slice b.1 P.length b.2], entOwn boolEnc 1 4 b.1 b.2 P, entBlk gt 91 #[.slice c.1 T.length c.2], entOwn Tg.enc 3 92 c.1 c.2 T, entBlk gr 58 #[.slice (some ⟨gR, 0, none⟩) R.length cR], entBlk gn 3 #[.int .i64 (n : Nat)], entOwn natEnc 1 3 (some ⟨gR, 0, none⟩) cR R, entBlk gl 89 #[.slice d.1 L.length d.2], entOwn Ml.enc 6 95 d.1 d.2 L], w⟩ w' [entBlk gw 58 #[.slice y.1.1 (W ++ [k]).length y.1.2], entOwn natEnc 1 3 y.1.1 y.1.2 (W ++ [k]), entBlk gp 90 #[.slice y.2.1.1 (P ++ [put]).length y.2.1.2], entOwn boolEnc 1 4 y.2.1.1 y.2.1.2 (P ++ [put]), entBlk gt 91 #[.slice y.2.2.1.1 (T ++ [tg]).length y.2.2.1.2], entOwn Tg.enc 3 92 y.2.2.1.1 y.2.2.1.2 (T ++ [tg]), entBlk gr 58 #[.slice (some ⟨gR, 0, none⟩) R.length cR], entBlk gn 3 #[.int .i64 (n : Nat)], entOwn natEnc 1 3 (some ⟨gR, 0, none⟩) cR (R.set k (W.length + 1)), entBlk gl 89 #[.slice y.2.2.2.1 (L ++ newMl n W.length).length y.2.2.2.2], entOwn Ml.enc 6 95 y.2.2.2.1 y.2.2.2.2 (L ++ newMl n W.length)] := by
  generalize blks [entBlk gw 58 #[.slice a.1 W.length a.2], entOwn natEnc 1 3 a.1 a.2 W, entBlk gp 90 #[.slice b.1 P.length b.2], entOwn boolEnc 1 4 b.1 b.2 P, entBlk gt 91 #[.slice c.1 T.length c.2], entOwn Tg.enc 3 92 c.1 c.2 T, entBlk gr 58 #[.slice (some ⟨gR, 0, none⟩) R.length cR], entBlk gn 3 #[.int .i64 (n : Nat)], entOwn natEnc 1 3 (some ⟨gR, 0, none⟩) cR R, entBlk gl 89 #[.slice d.1 L.length d.2], entOwn Ml.enc 6 95 d.1 d.2 L] = F at hM ⊢
  obtain ⟨AW, cW⟩ := a
  obtain ⟨AP, cP⟩ := b
  obtain ⟨AT, cT⟩ := c
  obtain ⟨AL, cL⟩ := d
  obtain ⟨ts, tw, tv⟩ := tg
  rw [Tg.enc_mk]
  refine calls_T F Try.func32 rfl Try.ntmps32 (by simp) (hM.anyN _) ?_
  dsimp only
  have hl3 : (W ++ [k]).length = W.length + 1 := by simp
  repeat' (first
    | ((with_reducible refine T_cutAt (X := (Option Addr × Nat) × (Option Addr × Nat) × (Option Addr × Nat)) 1 (fun z => [(0, .int .i64 (k : Nat)), (3, .pointer (some ⟨gw, 0, none⟩)), (4, .pointer (some ⟨gp, 0, none⟩)), (5, .pointer (some ⟨gt, 0, none⟩)), (6, .pointer (some ⟨gr, 0, none⟩)), (7, .pointer (some ⟨gn, 0, none⟩)), (8, .pointer (some ⟨gl, 0, none⟩))]) (fun z => [entBlk gw 58 #[.slice z.1.1 (W ++ [k]).length z.1.2], entOwn natEnc 1 3 z.1.1 z.1.2 (W ++ [k]), entBlk gp 90 #[.slice z.2.1.1 (P ++ [put]).length z.2.1.2], entOwn boolEnc 1 4 z.2.1.1 z.2.1.2 (P ++ [put]), entBlk gt 91 #[.slice z.2.2.1 (T ++ [(⟨ts, tw, tv⟩ : Tg)]).length z.2.2.2], entOwn Tg.enc 3 92 z.2.2.1 z.2.2.2 (T ++ [(⟨ts, tw, tv⟩ : Tg)]), entBlk gr 58 #[.slice (some ⟨gR, 0, none⟩) R.length cR], entBlk gn 3 #[.int .i64 (n : Nat)], entOwn natEnc 1 3 (some ⟨gR, 0, none⟩) cR R, entBlk gl 89 #[.slice AL L.length cL], entOwn Ml.enc 6 95 AL cL L]) (fun _ => True) ?_ ?_))
    | (refine GG ?_) | (refine GE ?_; (first | (rintro _ _ ⟨rfl, rfl⟩) | (rintro _ _ ⟨g, rfl, rfl⟩) | (rintro _ _ ⟨A', c', rfl, rfl⟩)); (try refine ⟨SUB, ?_⟩)) | ((refine GO2 ?_ ?_) <;> intro h <;> (try (repeat (first | with_reducible (replace h := of_decide_eq_true h) | with_reducible (replace h := of_decide_eq_false h) | with_reducible (replace h := bnt h) | with_reducible (replace h := bnf h) | with_reducible (replace h := Int.not_lt.mp h) | with_reducible (replace h := Int.not_le.mp h) | with_reducible (replace h := band_dec h) | with_reducible (replace h := band_decF h) | with_reducible (replace h := bor_dec h) | with_reducible (replace h := bor_decF h)))) <;> (try (exfalso; first | contradiction | omega))) | (refine GOF ?_ ?_) | ((with_reducible apply T_drawS (S0 := [entBlk g 92 #[.int .i64 ts, .int .i64 tw, .int .i64 tv], entBlk gw 58 #[.slice AW W.length cW], entBlk gp 90 #[.slice AP P.length cP], entBlk gt 91 #[.slice AT T.length cT]]) (id := 1) 12 (OT.seq [(0, 1), (0, 5), (1, 0), (1, 4), (1, 8), (1, 9)] (.fork (OT.seq [(2, 2)] (.fork (OT.seq [(2, 3)] (.fork (OT.seq [(2, 6)] (.fork (OT.seq [(2, 7), (2, 10), (2, 11), (3, 12), (3, 13), (3, 14)] .nil) (OT.seq [(2, 10), (2, 7), (2, 11), (3, 12), (3, 13), (3, 14)] .nil))) (OT.seq [(2, 10), (2, 6), (2, 7), (2, 11), (3, 12), (3, 13), (3, 14)] .nil))) (.fork (OT.seq [(2, 6)] (.fork (OT.seq [(2, 3)] (.fork (OT.seq [(2, 7), (2, 10), (2, 11), (3, 12), (3, 13), (3, 14)] .nil) (OT.seq [(2, 10), (2, 7), (2, 11), (3, 12), (3, 13), (3, 14)] .nil))) (OT.seq [(2, 10), (2, 3), (2, 7), (2, 11), (3, 12), (3, 13), (3, 14)] .nil))) (OT.seq [(2, 10)] (.fork (OT.seq [(2, 3), (2, 6), (2, 7), (2, 11), (3, 12), (3, 13), (3, 14)] .nil) (OT.seq [(2, 6), (2, 3), (2, 7), (2, 11), (3, 12), (3, 13), (3, 14)] .nil)))))) (.fork (OT.seq [(2, 6)] (.fork (OT.seq [(2, 2)] (.fork (OT.seq [(2, 3)] (.fork (OT.seq [(2, 7), (2, 10), (2, 11), (3, 12), (3, 13), (3, 14)] .nil) (OT.seq [(2, 10), (2, 7), (2, 11), (3, 12), (3, 13), (3, 14)] .nil))) (OT.seq [(2, 10), (2, 3), (2, 7), (2, 11), (3, 12), (3, 13), (3, 14)] .nil))) (OT.seq [(2, 10), (2, 2), (2, 3), (2, 7), (2, 11), (3, 12), (3, 13), (3, 14)] .nil))) (OT.seq [(2, 10)] (.fork (OT.seq [(2, 2)] (.fork (OT.seq [(2, 3), (2, 6), (2, 7), (2, 11), (3, 12), (3, 13), (3, 14)] .nil) (OT.seq [(2, 6), (2, 3), (2, 7), (2, 11), (3, 12), (3, 13), (3, 14)] .nil))) (OT.seq [(2, 6), (2, 2), (2, 3), (2, 7), (2, 11), (3, 12), (3, 13), (3, 14)] .nil))))))); exact SUB; kernel_rfl; exact rfl; kernel_rfl; (repeat (first | with_reducible exact Blind.body | with_reducible apply Blind.seq | with_reducible apply Blind.block))) | ((with_reducible (first | apply TD_e2z | apply TD_e3z | apply TL_e | apply TD_e2 | apply TD_e3)); ((with_reducible apply ES_append1 (enc := natEnc) (xx := k)); exact rfl; exact rfl; (repeat (first | with_reducible exact List.mem_cons_self | with_reducible apply List.mem_cons_of_mem)); exact rfl; exact fun _ => rfl; exact fun _ => rfl; (intro A' c'; first | ((repeat (first | with_reducible exact Upd.here _ _ _ | with_reducible apply Upd.there)); done) | (repeat (first | exact Upd.here _ _ _ | apply Upd.there))); (omega); decide; exact rfl); (first | exact rfl | exact ⟨rfl, rfl, rfl⟩); (rintro _ _ ⟨A', c', rfl, rfl⟩); (try refine ⟨SUB, ?_⟩)) | ((with_reducible (first | apply TD_e2z | apply TD_e3z | apply TL_e | apply TD_e2 | apply TD_e3)); ((with_reducible apply ES_append1 (enc := boolEnc) (xx := put)); exact rfl; exact rfl; (repeat (first | with_reducible exact List.mem_cons_self | with_reducible apply List.mem_cons_of_mem)); exact rfl; exact fun _ => rfl; exact fun _ => rfl; (intro A' c'; first | ((repeat (first | with_reducible exact Upd.here _ _ _ | with_reducible apply Upd.there)); done) | (repeat (first | exact Upd.here _ _ _ | apply Upd.there))); (omega); decide; exact rfl); (first | exact rfl | exact ⟨rfl, rfl, rfl⟩); (rintro _ _ ⟨A', c', rfl, rfl⟩); (try refine ⟨SUB, ?_⟩)) | ((with_reducible (first | apply TD_e2z | apply TD_e3z | apply TL_e | apply TD_e2 | apply TD_e3)); ((with_reducible apply ES_append1 (enc := Tg.enc) (xx := (⟨ts, tw, tv⟩ : Tg))); exact rfl; exact rfl; (repeat (first | with_reducible exact List.mem_cons_self | with_reducible apply List.mem_cons_of_mem)); exact rfl; exact fun _ => rfl; exact fun _ => rfl; (intro A' c'; first | ((repeat (first | with_reducible exact Upd.here _ _ _ | with_reducible apply Upd.there)); done) | (repeat (first | exact Upd.here _ _ _ | apply Upd.there))); (omega); decide; exact rfl); (first | exact rfl | exact ⟨rfl, rfl, rfl⟩); (rintro _ _ ⟨A', c', rfl, rfl⟩); (try refine ⟨SUB, ?_⟩))
    | (apply At_cut ((_, _), (_, _), (_, _)); exact trivial; ((repeat (first | exact SubE.nil _ | refine SubE.cons rfl ?_))); (intro w hw; exact hw.sel (by (repeat (first | exact Sel.nil _ | (apply Sel.cons; (repeat (first | with_reducible exact Pick.here _ _ | with_reducible apply Pick.there)))))))) | fail)
  rintro ⟨⟨AW2, cW2⟩, ⟨AP2, cP2⟩, ⟨AT2, cT2⟩⟩ -
  dsimp only
  repeat' (first | (refine GO ?_) | (refine GOE ?_; (first | (rintro _ _ ⟨rfl, rfl⟩) | (rintro _ _ ⟨g, rfl, rfl⟩) | (rintro _ _ ⟨A', c', rfl, rfl⟩))) | ((refine GO2 ?_ ?_) <;> intro h <;> (try (repeat (first | with_reducible (replace h := of_decide_eq_true h) | with_reducible (replace h := of_decide_eq_false h) | with_reducible (replace h := bnt h) | with_reducible (replace h := bnf h) | with_reducible (replace h := Int.not_lt.mp h) | with_reducible (replace h := Int.not_le.mp h) | with_reducible (replace h := band_dec h) | with_reducible (replace h := band_decF h) | with_reducible (replace h := bor_dec h) | with_reducible (replace h := bor_decF h)))) <;> (try (exfalso; first | contradiction | omega))) | fail)
  refine T_loop (X := Nat × (Option Addr × Nat)) (fun x => [(31, .int .i64 (x.1 : Nat)), (30, .int .i64 (n : Nat)), (3, .pointer (some ⟨gw, 0, none⟩)), (8, .pointer (some ⟨gl, 0, none⟩))])
    (fun x => [entBlk gw 58 #[.slice AW2 (W ++ [k]).length cW2], entOwn natEnc 1 3 AW2 cW2 (W ++ [k]), entBlk gp 90 #[.slice AP2 (P ++ [put]).length cP2], entOwn boolEnc 1 4 AP2 cP2 (P ++ [put]), entBlk gt 91 #[.slice AT2 (T ++ [(⟨ts, tw, tv⟩ : Tg)]).length cT2], entOwn Tg.enc 3 92 AT2 cT2 (T ++ [(⟨ts, tw, tv⟩ : Tg)]), entBlk gr 58 #[.slice (some ⟨gR, 0, none⟩) R.length cR], entBlk gn 3 #[.int .i64 (n : Nat)], entOwn natEnc 1 3 (some ⟨gR, 0, none⟩) cR (R.set k (W.length + 1)), entBlk gl 89 #[.slice x.2.1 (L ++ newMl x.1 W.length).length x.2.2], entOwn Ml.enc 6 95 x.2.1 x.2.2 (L ++ newMl x.1 W.length)])
    (fun x => x.1 ≤ n) (fun x => n - x.1) (0, (AL, cL)) (by (try dsimp only); omega) (by (repeat (first | exact SubE.nil _ | refine SubE.cons rfl ?_))) (fun w' hw => by
      dsimp only
      rw [show L ++ newMl 0 W.length = L by simp [newMl], ← hl3]
      exact hw.sel (by (repeat (first | exact Sel.nil _ | (apply Sel.cons; (repeat (first | with_reducible exact Pick.here _ _ | with_reducible apply Pick.there))))))) ?_
  rintro ⟨j, ⟨A2, c2⟩⟩ hj
  dsimp only at hj ⊢
  by_cases hjn : j < n
  · have hm := newMl_len j W.length
    have hLl : (L ++ newMl j W.length).length = L.length + j := by rw [List.length_append, hm]
    have hnx : L ++ newMl (j + 1) W.length = (L ++ newMl j W.length) ++ [⟨W.length, j, 0, t0⟩] := by rw [newMl_succ, List.append_assoc]
    have hz : (((W ++ [k]).length : Nat) : Int) - 1 = (W.length : Nat) := by omega
    have hmx : [Value.int .i64 ((((W ++ [k]).length : Nat) : Int) - 1), .int .i64 (j : Nat), .int .i64 0, .int .i64 0, .int .i64 0, .int .i64 0] = Ml.enc ⟨W.length, j, 0, t0⟩ := by rw [hz]; rfl
    generalize L ++ newMl j W.length = O at *
    repeat' (first | (refine GO ?_) | (refine GOE ?_; (first | (rintro _ _ ⟨rfl, rfl⟩) | (rintro _ _ ⟨g, rfl, rfl⟩) | (rintro _ _ ⟨A', c', rfl, rfl⟩))) | ((refine GO2 ?_ ?_) <;> intro h <;> (try (repeat (first | with_reducible (replace h := of_decide_eq_true h) | with_reducible (replace h := of_decide_eq_false h) | with_reducible (replace h := bnt h) | with_reducible (replace h := bnf h) | with_reducible (replace h := Int.not_lt.mp h) | with_reducible (replace h := Int.not_le.mp h) | with_reducible (replace h := band_dec h) | with_reducible (replace h := band_decF h) | with_reducible (replace h := bor_dec h) | with_reducible (replace h := bor_decF h)))) <;> (try (exfalso; first | contradiction | omega))) | ((with_reducible (first | apply TD_e2z | apply TD_e3z | apply TL_e | apply TD_e2 | apply TD_e3)); ((with_reducible apply ES_append1 (enc := Ml.enc) (xx := (⟨W.length, j, 0, t0⟩ : Ml))); exact rfl; exact rfl; (repeat (first | with_reducible exact List.mem_cons_self | with_reducible apply List.mem_cons_of_mem)); exact hmx; exact fun _ => rfl; exact fun _ => rfl; (intro A' c'; first | ((repeat (first | with_reducible exact Upd.here _ _ _ | with_reducible apply Upd.there)); done) | (repeat (first | exact Upd.here _ _ _ | apply Upd.there))); omega; decide; exact rfl); (first | exact rfl | exact ⟨rfl, rfl, rfl⟩); (rintro _ _ ⟨A', c', rfl, rfl⟩); (try refine ⟨SUB, ?_⟩)) | fail)
    apply At_rounds (j + 1, (A', c'))
    case hE => (repeat (first | exact SubE.nil _ | refine SubE.cons rfl ?_))
    case hS =>
      intro w' hw
      dsimp only
      rw [hnx]
      exact hw.sel (by (repeat (first | exact Sel.nil _ | (apply Sel.cons; (repeat (first | with_reducible exact Pick.here _ _ | with_reducible apply Pick.there))))))
    case hμ => (try dsimp only); omega
    case hp => exact hjn
  · obtain rfl : j = n := by omega
    repeat' (first | (refine GO ?_) | (refine GOE ?_; (first | (rintro _ _ ⟨rfl, rfl⟩) | (rintro _ _ ⟨g, rfl, rfl⟩) | (rintro _ _ ⟨A', c', rfl, rfl⟩))) | ((refine GO2 ?_ ?_) <;> intro h <;> (try (repeat (first | with_reducible (replace h := of_decide_eq_true h) | with_reducible (replace h := of_decide_eq_false h) | with_reducible (replace h := bnt h) | with_reducible (replace h := bnf h) | with_reducible (replace h := Int.not_lt.mp h) | with_reducible (replace h := Int.not_le.mp h) | with_reducible (replace h := band_dec h) | with_reducible (replace h := band_decF h) | with_reducible (replace h := bor_dec h) | with_reducible (replace h := bor_decF h)))) <;> (try (exfalso; first | contradiction | omega))) | fail)
    (refine At_retN Try.results32 rfl (fun w' hw => ?_))
    exact ⟨((AW2, cW2), (AP2, cP2), (AT2, cT2), (A2, c2)), rfl, (hw.anyN 0).sel (by (repeat (first | exact Sel.nil _ | (apply Sel.cons; (repeat (first | with_reducible exact Pick.here _ _ | with_reducible apply Pick.there))))))⟩
end
end Go.Proofs.Ytaonijdhmgcbjaa

namespace Go.Proofs.Ytaonijdhmgcbjaa
open Go.RowKit
set_option linter.unusedSectionVars false

def blkC (n : Nat) : Code → Code
  | .seq a b => match blkC n a with
    | .skip => blkC n b
    | c => c
  | .block m c => if m == n then c else blkC n c
  | .loop c => blkC n c
  | .cond _ a b => match blkC n a with
    | .skip => blkC n b
    | c => c
  | _ => .skip
noncomputable def keptB : Code := blkC 1 (Try.f8.body.getD .skip)
def whoL (s : Sv) : List Nat := s.tr.map (·.who)
def putL (s : Sv) : List Bool := s.tr.map (·.put)
def tagL (s : Sv) : List Tg := s.tr.map (·.tag)
def tripL (s : Sv) : List Nat := s.pe.map (·.trip)
def nextL (s : Sv) : List Nat := s.pe.map (·.next)
theorem hdEnc_mkS (a : Option Addr) (n c : Nat) : hdEnc ⟨a, n, c⟩ = [.slice a n c] := rfl
section
variable {P : Program} {C : Ctx} {E : Slots} {S R S1 : List Ent} {d ty f : Nat} {ps : String} {af : Array Edge} {g0 : Option (Nat × Bool)}
/-- a call of a function value that turns what it is handed into something of a shape -/
theorem ES_callFXs [hf : IsFn P f] {X : Type} {x : Operand} {xs : List Operand} {vs us cs : List Value} {ats : Array TypeId} (z : X → Value) (S1' : X → List Ent) {S2 : X → List Ent} (hv : evo E x = some (.func (.func f) us.toArray cs.toArray)) (hx : evs E xs = some vs)
    (hS : Pull S S1 R) (hA : ∀ x, AppL (S1' x) R (S2 x))
    (hc : ∀ w, Mem C w (S1 ++ R) → Calls P f (us ++ vs ++ cs).toArray w fun e w' => ∃ x, e = .returned (z x) ∧ Mem ⟨0, blks S1, w⟩ w' (S1' x)) (hd : Nat.ble (d + 1) C.n = true) :
    ES P C E S ⟨some d, .call ⟨.value x, xs.toArray, ats⟩, ty, ps, af, g0⟩ (fun E' S' => ∃ x, E' = (d, z x) :: E ∧ S' = S2 x) :=
  (ES_enter (fun u T => ∃ x, u = z x ∧ T = S2 x) (fun a w ha => run_callV hv hx ha) (fun w hw => (hc w (hw.pull hS)).mono fun e w' ⟨x, he, hb⟩ => ⟨z x, _, he, (hw.pull hS).frame hb, x, rfl, (hA x).eq⟩) hd).weak
    (by rintro _ _ ⟨_, ⟨x, rfl, rfl⟩, rfl⟩; exact ⟨x, rfl, rfl⟩)
end
theorem whoL_len (s : Sv) : (whoL s).length = s.tr.length := by simp [whoL]
theorem tripL_at {s : Sv} {q : Nat} (h : q < s.pe.length) : (tripL s)[q]'(by simpa [tripL] using h) = (s.p q).trip := by simp [tripL, Sv.p, h]
theorem nextL_at {s : Sv} {q : Nat} (h : q < s.pe.length) : (nextL s)[q]'(by simpa [nextL] using h) = (s.p q).next := by simp [nextL, Sv.p, h]
theorem whoL_at {s : Sv} {q : Nat} (h : q < s.tr.length) : (whoL s)[q]'(by simpa [whoL] using h) = (s.tp q).who := by simp [whoL, Sv.tp, h]
theorem putL_at {s : Sv} {q : Nat} (h : q < s.tr.length) : (putL s)[q]'(by simpa [putL] using h) = (s.tp q).put := by simp [putL, Sv.tp, h]
theorem tagL_at {s : Sv} {q : Nat} (h : q < s.tr.length) : (tagL s)[q]'(by simpa [tagL] using h) = (s.tp q).tag := by simp [tagL, Sv.tp, h]
section
variable (n : Nat) (s : Sv) (w : Nat) (put : Bool) (tag : Tg)
theorem whoL_about : whoL (aboutV n s w put tag) = whoL s ++ [w] := by simp [whoL, aboutV]
theorem putL_about : putL (aboutV n s w put tag) = putL s ++ [put] := by simp [putL, aboutV]
theorem tagL_about : tagL (aboutV n s w put tag) = tagL s ++ [tag] := by simp [tagL, aboutV]
theorem tripL_about : tripL (aboutV n s w put tag) = (tripL s).set w ((whoL s).length + 1) := by simp [tripL, aboutV, List.map_set, whoL_len]
theorem nextL_about (h : w < s.pe.length) : nextL (aboutV n s w put tag) = nextL s := by
  simp only [nextL, aboutV, List.map_set]
  apply List.ext_getElem
  · simp
  · intro i h1 h2
    rw [List.getElem_set]
    split
    · rename_i e; subst e; simp [Sv.p, h]
    · rfl
theorem ml_about : (aboutV n s w put tag).ml = s.ml ++ newMl n (whoL s).length := by simp [aboutV, whoL_len]
end
section
variable (gw gp gt gr gn gl gS gN gR n m k : Nat) (a b c d e : Option Addr × Nat) (fast : Bool) (l : List Ac) (B0 D0 : Option Addr) (d0 e0 : Nat) (s : Sv) (w : World) (hk : k < l.length) (hB : RdE Ac.enc 2 w B0 l) (hev : s.evs.length ≤ 5000) (hml : s.ml.length ≤ 5000)
include hk hB hev hml
set_option maxRecDepth 100000 in
set_option maxHeartbeats 8000000 in
/-- no letter bears that number -/
theorem k_out (h1 : l[k].kind ≠ 1) (h4 : l[k].kind ≠ 4) (ho : l[k].a < 0 ∨ (s.ml.length : Int) ≤ l[k].a) (s' : Sv) (hs : s' = s) (Q : Exit → Act → World → Prop) (hQ : Blind Q) : T Try.prog ⟨363, [], w⟩ keptB (Exit.inBlock 1 (Exit.then (Cut ⟨363, [], w⟩ (fun z : (Option Addr × Nat) × (Option Addr × Nat) × (Option Addr × Nat) × (Option Addr × Nat) × (Option Addr × Nat) => [(43, .int .i64 (k : Nat)), (17, .slice z.2.2.2.2.1 s'.evs.length z.2.2.2.2.2), (42, .int .i64 (l.length : Nat)), (41, .slice B0 l.length d0), (1, .bool fast), (2, .slice D0 m e0), (4, .pointer (some ⟨gn, 0, none⟩)), (10, .slice (some ⟨gS, 0, none⟩) n n), (11, .pointer (some ⟨gl, 0, none⟩)), (12, .pointer (some ⟨gw, 0, none⟩)), (13, .pointer (some ⟨gp, 0, none⟩)), (14, .pointer (some ⟨gt, 0, none⟩)), (15, .slice (some ⟨gN, 0, none⟩) m m), (16, .pointer (some ⟨gr, 0, none⟩)), (18, .func (.func 31) #[] #[]), (19, .func (.func 32) #[] #[.pointer (some ⟨gw, 0, none⟩), .pointer (some ⟨gp, 0, none⟩), .pointer (some ⟨gt, 0, none⟩), .pointer (some ⟨gr, 0, none⟩), .pointer (some ⟨gn, 0, none⟩), .pointer (some ⟨gl, 0, none⟩)])]) (fun z => [entBlk gw 58 #[.slice z.1.1 (whoL s').length z.1.2], entOwn natEnc 1 3 z.1.1 z.1.2 (whoL s'), entBlk gp 90 #[.slice z.2.1.1 (putL s').length z.2.1.2], entOwn boolEnc 1 4 z.2.1.1 z.2.1.2 (putL s'), entBlk gt 91 #[.slice z.2.2.1.1 (tagL s').length z.2.2.1.2], entOwn Tg.enc 3 92 z.2.2.1.1 z.2.2.1.2 (tagL s'), entBlk gr 58 #[.slice (some ⟨gR, 0, none⟩) m m], entBlk gn 3 #[.int .i64 (n : Nat)], entOwn natEnc 1 3 (some ⟨gR, 0, none⟩) m (tripL s'), entBlk gl 89 #[.slice z.2.2.2.1.1 s'.ml.length z.2.2.2.1.2], entOwn Ml.enc 6 95 z.2.2.2.1.1 z.2.2.2.1.2 s'.ml, entOwn Si.enc 4 37 (some ⟨gS, 0, none⟩) n s'.at_, entOwn natEnc 1 3 (some ⟨gN, 0, none⟩) m (nextL s'), entOwn Ev.enc 4 34 z.2.2.2.2.1 z.2.2.2.2.2 s'.evs]) (fun _ => True)) Q)) [(43, .int .i64 (k : Nat)), (17, .slice e.1 s.evs.length e.2), (42, .int .i64 (l.length : Nat)), (41, .slice B0 l.length d0), (1, .bool fast), (2, .slice D0 m e0), (4, .pointer (some ⟨gn, 0, none⟩)), (10, .slice (some ⟨gS, 0, none⟩) n n), (11, .pointer (some ⟨gl, 0, none⟩)), (12, .pointer (some ⟨gw, 0, none⟩)), (13, .pointer (some ⟨gp, 0, none⟩)), (14, .pointer (some ⟨gt, 0, none⟩)), (15, .slice (some ⟨gN, 0, none⟩) m m), (16, .pointer (some ⟨gr, 0, none⟩)), (18, .func (.func 31) #[] #[]), (19, .func (.func 32) #[] #[.pointer (some ⟨gw, 0, none⟩), .pointer (some ⟨gp, 0, none⟩), .pointer (some ⟨gt, 0, none⟩), .pointer (some ⟨gr, 0, none⟩), .pointer (some ⟨gn, 0, none⟩), .pointer (some ⟨gl, 0, none⟩)])] [entBlk gw 58 #[.slice a.1 (whoL s).length a.2], entOwn natEnc 1 3 a.1 a.2 (whoL s), entBlk gp 90 #[.slice b.1 (putL s).length b.2], entOwn boolEnc 1 4 b.1 b.2 (putL s), entBlk gt 91 #[.slice c.1 (tagL s).length c.2], entOwn Tg.enc 3 92 c.1 c.2 (tagL s), entBlk gr 58 #[.slice (some ⟨gR, 0, none⟩) m m], entBlk gn 3 #[.int .i64 (n : Nat)], entOwn natEnc 1 3 (some ⟨gR, 0, none⟩) m (tripL s), entBlk gl 89 #[.slice d.1 s.ml.length d.2], entOwn Ml.enc 6 95 d.1 d.2 s.ml, entOwn Si.enc 4 37 (some ⟨gS, 0, none⟩) n s.at_, entOwn natEnc 1 3 (some ⟨gN, 0, none⟩) m (nextL s), entOwn Ev.enc 4 34 e.1 e.2 s.evs] := by
  subst hs
  obtain ⟨bB, oB, rfl, _⟩ := RdE.open hB (by omega)
  unfold keptB
  conv => arg 3; whnf
  repeat' (first | (refine GG ?_) | (refine GE ?_; (first | (rintro _ _ ⟨rfl, rfl⟩) | (rintro _ _ ⟨g, rfl, rfl⟩) | (rintro _ _ ⟨A', c', rfl, rfl⟩)); (try refine ⟨SUB, ?_⟩)) | ((refine GO2 ?_ ?_) <;> intro h <;> (try (repeat (first | with_reducible (replace h := of_decide_eq_true h) | with_reducible (replace h := of_decide_eq_false h) | with_reducible (replace h := bnt h) | with_reducible (replace h := bnf h) | with_reducible (replace h := Int.not_lt.mp h) | with_reducible (replace h := Int.not_le.mp h) | with_reducible (replace h := band_dec h) | with_reducible (replace h := band_decF h) | with_reducible (replace h := bor_dec h) | with_reducible (replace h := bor_decF h)))) <;> (try (exfalso; first | contradiction | omega))) | (refine GOF ?_ ?_) | ((with_reducible apply T_draw (id := 52) 1000 (OT.seq [(0, 1), (1, 0), (1, 2), (0, 3), (1, 4), (0, 5), (0, 6), (0, 7), (0, 8), (0, 12), (0, 13), (1, 9), (0, 10), (1, 11), (1, 14), (0, 15), (1, 16), (0, 17), (0, 18), (0, 19)] .nil)); kernel_rfl; exact rfl; kernel_rfl; (repeat (first | with_reducible exact Blind.body | with_reducible apply Blind.seq | with_reducible apply Blind.block))) | ((with_reducible apply T_draw (id := 53) 13 (OT.seq [(0, 0), (0, 1), (0, 5), (0, 6), (1, 2), (0, 3), (1, 4), (1, 7), (0, 8), (1, 9), (0, 10), (1, 11), (2, 12), (3, 13)] .nil)); kernel_rfl; exact rfl; kernel_rfl; (repeat (first | with_reducible exact Blind.body | with_reducible apply Blind.seq | with_reducible apply Blind.block))) | ((with_reducible apply T_draw (id := 20) 16 (OT.seq [(0, 0), (0, 1), (0, 2), (0, 3), (0, 5), (0, 6), (0, 7), (0, 9), (0, 10), (0, 11), (1, 4), (1, 8), (1, 12), (0, 13), (0, 14), (0, 15), (3, 16)] .nil)); kernel_rfl; exact rfl; kernel_rfl; (repeat (first | with_reducible exact Blind.body | with_reducible apply Blind.seq | with_reducible apply Blind.block))) | ((with_reducible apply T_draw (id := 21) 1000 (OT.seq [(0, 1), (0, 2), (0, 3), (1, 0), (1, 4), (0, 5), (1, 6), (0, 7), (0, 8), (0, 9), (0, 10), (0, 11), (0, 14), (0, 15), (0, 16), (1, 12), (1, 13), (1, 17), (0, 18), (1, 19), (2, 20), (0, 21)] .nil)); kernel_rfl; exact rfl; kernel_rfl; (repeat (first | with_reducible exact Blind.body | with_reducible apply Blind.seq | with_reducible apply Blind.block))) | ((with_reducible apply T_draw (id := 22) 29 (OT.seq [(0, 0), (0, 1), (0, 2), (0, 4), (0, 5), (0, 6), (0, 12), (0, 13), (0, 14), (0, 20), (0, 21), (0, 22), (1, 3), (1, 7), (0, 8), (0, 9), (1, 10), (1, 11), (1, 15), (0, 16), (0, 17), (1, 18), (1, 19), (1, 23), (0, 24), (0, 25), (1, 26), (0, 27), (0, 28), (3, 29), (0, 30), (0, 31), (3, 32), (0, 33), (0, 34), (3, 35)] .nil)); kernel_rfl; exact rfl; kernel_rfl; (repeat (first | with_reducible exact Blind.body | with_reducible apply Blind.seq | with_reducible apply Blind.block))) | ((with_reducible apply T_draw (id := 25) 1000 (OT.seq [(0, 1), (0, 2), (0, 3), (1, 0), (1, 4), (0, 5), (1, 6), (0, 7)] .nil)); kernel_rfl; exact rfl; kernel_rfl; (repeat (first | with_reducible exact Blind.body | with_reducible apply Blind.seq | with_reducible apply Blind.block))) | ((with_reducible apply T_draw (id := 26) 1000 (OT.seq [(0, 1), (0, 4), (0, 5), (0, 6), (1, 0), (0, 2), (1, 3), (1, 7), (0, 8), (0, 9)] .nil)); kernel_rfl; exact rfl; kernel_rfl; (repeat (first | with_reducible exact Blind.body | with_reducible apply Blind.seq | with_reducible apply Blind.block))) | ((with_reducible apply T_draw (id := 32) 1000 (OT.seq [(0, 0), (0, 2), (0, 3), (0, 4), (1, 1), (1, 5), (0, 6), (0, 7), (0, 8), (1, 9), (0, 10), (0, 11)] .nil)); kernel_rfl; exact rfl; kernel_rfl; (repeat (first | with_reducible exact Blind.body | with_reducible apply Blind.seq | with_reducible apply Blind.block))) | ((with_reducible apply T_draw (id := 38) 11 (OT.seq [(0, 0), (0, 1), (0, 2), (0, 4), (0, 5), (0, 6), (1, 3), (1, 7), (0, 8), (1, 9), (2, 10), (3, 11)] .nil)); kernel_rfl; exact rfl; kernel_rfl; (repeat (first | with_reducible exact Blind.body | with_reducible apply Blind.seq | with_reducible apply Blind.block))) | ((with_reducible apply T_draw (id := 39) 1000 (OT.seq [(0, 1), (0, 2), (0, 3), (1, 0), (1, 4), (0, 5), (1, 6), (0, 7), (0, 8), (0, 9), (1, 10), (0, 11), (0, 12)] .nil)); kernel_rfl; exact rfl; kernel_rfl; (repeat (first | with_reducible exact Blind.body | with_reducible apply Blind.seq | with_reducible apply Blind.block))) | ((with_reducible apply T_draw (id := 41) 1000 (OT.seq [(0, 1), (0, 2), (0, 3), (1, 0), (1, 4), (0, 5), (1, 6), (0, 7), (0, 8), (0, 9), (0, 10), (0, 11)] .nil)); kernel_rfl; exact rfl; kernel_rfl; (repeat (first | with_reducible exact Blind.body | with_reducible apply Blind.seq | with_reducible apply Blind.block))) | ((with_reducible apply T_draw (id := 44) 1000 (OT.seq [(0, 1), (0, 2), (0, 3), (1, 0), (1, 4), (0, 5), (1, 6)] .nil)); kernel_rfl; exact rfl; kernel_rfl; (repeat (first | with_reducible exact Blind.body | with_reducible apply Blind.seq | with_reducible apply Blind.block))) | ((with_reducible apply T_draw (id := 45) 1000 (OT.seq [(0, 1), (0, 2), (0, 3), (1, 0), (1, 4), (0, 5), (0, 6), (1, 7), (0, 8)] .nil)); kernel_rfl; exact rfl; kernel_rfl; (repeat (first | with_reducible exact Blind.body | with_reducible apply Blind.seq | with_reducible apply Blind.block))) | exact hQ | ((with_reducible (first | apply TD_e2z | apply TD_e3z | apply TL_e | apply TD_e2 | apply TD_e3)); ((with_reducible apply ES_callV (f := 20)); exact rfl; (intro w hw; exact between_C _ _ _ w); exact rfl); (first | exact rfl | exact ⟨rfl, rfl, rfl⟩); (rintro _ _ ⟨rfl, rfl⟩); (try refine ⟨SUB, ?_⟩)) | fail)
  all_goals first
    | (exfalso; omega)
    | (apply At_cut (a, b, c, d, e); (exact trivial); ((repeat (first | exact SubE.nil _ | refine SubE.cons rfl ?_))); (intro w hw; exact hw.sel (by (repeat (first | exact Sel.nil _ | (apply Sel.cons; (repeat (first | with_reducible exact Pick.here _ _ | with_reducible apply Pick.there))))))))
end
end Go.Proofs.Ytaonijdhmgcbjaa
