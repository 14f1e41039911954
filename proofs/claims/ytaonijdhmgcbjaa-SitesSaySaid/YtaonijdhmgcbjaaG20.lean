/- Lemmas for the walks (SvR, SvS). No condition. -/
import Derived.Test.YtaonijdhmgcbjaaG18
import Derived.Test.YtaonijdhmgcbjaaG07
import Derived.Test.YtaonijdhmgcbjaaG16
import Derived.Test.YtaonijdhmgcbjaaG17
import Derived.Test.YtaonijdhmgcbjaaG19
import Derived.Test.YtaonijdhmgcbjaaG11
set_option linter.unusedSimpArgs false
set_option linter.unusedVariables false
set_option linter.unusedSectionVars false
set_option linter.unnecessarySimpa false
namespace Go.Proofs.Ytaonijdhmgcbjaa
open Go.RowKit
theorem QSarm_SvR {p : Prop} (h : p := by (first | ((with_reducible apply QS_load); exact rfl; exact hAct _) | ((with_reducible apply QS_load); exact rfl; exact Lds.own (enc := Ml.enc) (by first | ((repeat (first | with_reducible exact List.mem_cons_self | with_reducible apply List.mem_cons_of_mem)); done) | (repeat (first | exact List.Mem.head _ | apply List.Mem.tail))) (by intro x; rfl) hil (by rw [hpi, Ml.enc_mk]; rfl)) | ((with_reducible apply QS_load); exact rfl; exact Lds.own0 (enc := Ml.enc) (by first | ((repeat (first | with_reducible exact List.mem_cons_self | with_reducible apply List.mem_cons_of_mem)); done) | (repeat (first | exact List.Mem.head _ | apply List.Mem.tail))) (by intro x; rfl) hil (by rw [hpi, Ml.enc_mk]; rfl)) | ((with_reducible apply QS_load); exact rfl; exact Lds.setAt (enc := Ml.enc) (by first | ((repeat (first | with_reducible exact List.mem_cons_self | with_reducible apply List.mem_cons_of_mem)); done) | (repeat (first | exact List.Mem.head _ | apply List.Mem.tail))) (by intro x; rfl) (by first | exact hil | (simp only [List.length_set]; exact hil)) (by rw [Ml.enc_mk]; rfl)) | ((with_reducible apply QS_load); exact rfl; exact Lds.setAt0 (enc := Ml.enc) (by first | ((repeat (first | with_reducible exact List.mem_cons_self | with_reducible apply List.mem_cons_of_mem)); done) | (repeat (first | exact List.Mem.head _ | apply List.Mem.tail))) (by intro x; rfl) (by first | exact hil | (simp only [List.length_set]; exact hil)) (by rw [Ml.enc_mk]; rfl)) | ((with_reducible apply QS_load); exact rfl; exact Lds.ownAggAs (enc := Ml.enc) (by first | ((repeat (first | with_reducible exact List.mem_cons_self | with_reducible apply List.mem_cons_of_mem)); done) | (repeat (first | exact List.Mem.head _ | apply List.Mem.tail))) (by intro x; rfl) hxl hpe) | ((with_reducible apply QS_load); exact rfl; exact Lds.own (enc := Ml.enc) (by first | ((repeat (first | with_reducible exact List.mem_cons_self | with_reducible apply List.mem_cons_of_mem)); done) | (repeat (first | exact List.Mem.head _ | apply List.Mem.tail))) (by intro x; rfl) hil2 (by rw [hpi2, Ml.enc_mk]; rfl)) | ((with_reducible apply QS_load); exact rfl; exact Lds.own0 (enc := Ml.enc) (by first | ((repeat (first | with_reducible exact List.mem_cons_self | with_reducible apply List.mem_cons_of_mem)); done) | (repeat (first | exact List.Mem.head _ | apply List.Mem.tail))) (by intro x; rfl) hil2 (by rw [hpi2, Ml.enc_mk]; rfl)) | ((with_reducible apply QS_load); exact rfl; exact Lds.mid (m := 3) (us := [.int .i64 xa, .int .i64 xb, .int .i64 xc]) (by first | ((repeat (first | with_reducible exact List.mem_cons_self | with_reducible apply List.mem_cons_of_mem)); done) | (repeat (first | exact List.Mem.head _ | apply List.Mem.tail))) rfl rfl) | ((with_reducible apply QS_load); exact rfl; exact Lds.own1 (enc := natEnc) (by first | ((repeat (first | with_reducible exact List.mem_cons_self | with_reducible apply List.mem_cons_of_mem)); done) | (repeat (first | exact List.Mem.head _ | apply List.Mem.tail))) (by intro x; rfl) hWl (by rw [eW]; rfl)) | ((with_reducible apply QS_load); exact rfl; exact Lds.own1 (enc := natEnc) (by first | ((repeat (first | with_reducible exact List.mem_cons_self | with_reducible apply List.mem_cons_of_mem)); done) | (repeat (first | exact List.Mem.head _ | apply List.Mem.tail))) (by intro x; rfl) hRl (by rw [eR]; rfl)) | exact QS.auto)) : p := h
theorem ESarm_SvR {p : Prop} (h : p := by (first | ((with_reducible apply ES_storeOwn (enc := Ml.enc) (xx := (⟨tr, si, 2, ⟨gs, g2, gv⟩⟩ : Ml))); exact rfl; exact rfl; (first | ((repeat (first | with_reducible exact Upd.here _ _ _ | with_reducible apply Upd.there)); done) | (repeat (first | exact Upd.here _ _ _ | apply Upd.there))); (intro x; rfl); (first | exact List.getElem?_set_self (by first | exact hil | (simp only [List.length_set]; exact hil)) | exact hpi1); decide; exact rfl; exact rfl) | exact ES.auto)) : p := h
theorem DRarm0_SvR {p R : Prop} (r : R) (h : Rest R → p := by intro r; first | ((with_reducible apply T_draw (id := 52) 1000 (OT.seq [(0, 1), (1, 0), (1, 2), (0, 3), (1, 4), (0, 5), (0, 6), (0, 7), (0, 8), (0, 12), (0, 13), (1, 9), (0, 10), (1, 11), (1, 14), (0, 15), (1, 16), (0, 17), (0, 18), (0, 19)] .nil)); kernel_rfl; exact rfl; kernel_rfl; (repeat (first | with_reducible exact Blind.body | with_reducible apply Blind.seq | with_reducible apply Blind.block | with_reducible assumption)); exact r.out) | ((with_reducible apply T_draw (id := 53) 13 (OT.seq [(0, 0), (0, 1), (0, 5), (0, 6), (1, 2), (0, 3), (1, 4), (1, 7), (0, 8), (1, 9), (0, 10), (1, 11), (2, 12), (3, 13)] .nil)); kernel_rfl; exact rfl; kernel_rfl; (repeat (first | with_reducible exact Blind.body | with_reducible apply Blind.seq | with_reducible apply Blind.block | with_reducible assumption)); exact r.out) | ((with_reducible apply T_draw (id := 20) 16 (OT.seq [(0, 0), (0, 1), (0, 2), (0, 3), (0, 5), (0, 6), (0, 7), (0, 9), (0, 10), (0, 11), (1, 4), (1, 8), (1, 12), (0, 13), (0, 14), (0, 15), (3, 16)] .nil)); kernel_rfl; exact rfl; kernel_rfl; (repeat (first | with_reducible exact Blind.body | with_reducible apply Blind.seq | with_reducible apply Blind.block | with_reducible assumption)); exact r.out) | ((with_reducible apply T_draw (id := 21) 1000 (OT.seq [(0, 1), (0, 2), (0, 3), (1, 0), (1, 4), (0, 5), (1, 6), (0, 7), (0, 8), (0, 9), (0, 10), (0, 11), (0, 14), (0, 15), (0, 16), (1, 12), (1, 13), (1, 17), (0, 18), (1, 19), (2, 20), (0, 21)] .nil)); kernel_rfl; exact rfl; kernel_rfl; (repeat (first | with_reducible exact Blind.body | with_reducible apply Blind.seq | with_reducible apply Blind.block | with_reducible assumption)); exact r.out) | ((with_reducible apply T_draw (id := 22) 29 (OT.seq [(0, 0), (0, 1), (0, 2), (0, 4), (0, 5), (0, 6), (0, 12), (0, 13), (0, 14), (0, 20), (0, 21), (0, 22), (1, 3), (1, 7), (0, 8), (0, 9), (1, 10), (1, 11), (1, 15), (0, 16), (0, 17), (1, 18), (1, 19), (1, 23), (0, 24), (0, 25), (1, 26), (0, 27), (0, 28), (3, 29), (0, 30), (0, 31), (3, 32), (0, 33), (0, 34), (3, 35)] .nil)); kernel_rfl; exact rfl; kernel_rfl; (repeat (first | with_reducible exact Blind.body | with_reducible apply Blind.seq | with_reducible apply Blind.block | with_reducible assumption)); exact r.out) | ((with_reducible apply T_draw (id := 25) 1000 (OT.seq [(0, 1), (0, 2), (0, 3), (1, 0), (1, 4), (0, 5), (1, 6), (0, 7)] .nil)); kernel_rfl; exact rfl; kernel_rfl; (repeat (first | with_reducible exact Blind.body | with_reducible apply Blind.seq | with_reducible apply Blind.block | with_reducible assumption)); exact r.out) | ((with_reducible apply T_draw (id := 26) 1000 (OT.seq [(0, 1), (0, 4), (0, 5), (0, 6), (1, 0), (0, 2), (1, 3), (1, 7), (0, 8), (0, 9)] .nil)); kernel_rfl; exact rfl; kernel_rfl; (repeat (first | with_reducible exact Blind.body | with_reducible apply Blind.seq | with_reducible apply Blind.block | with_reducible assumption)); exact r.out) | ((with_reducible apply T_draw (id := 32) 1000 (OT.seq [(0, 0), (0, 2), (0, 3), (0, 4), (1, 1), (1, 5), (0, 6), (0, 7), (0, 8), (1, 9), (0, 10), (0, 11)] .nil)); kernel_rfl; exact rfl; kernel_rfl; (repeat (first | with_reducible exact Blind.body | with_reducible apply Blind.seq | with_reducible apply Blind.block | with_reducible assumption)); exact r.out) | ((with_reducible apply T_draw (id := 38) 11 (OT.seq [(0, 0), (0, 1), (0, 2), (0, 4), (0, 5), (0, 6), (1, 3), (1, 7), (0, 8), (1, 9), (2, 10), (3, 11)] .nil)); kernel_rfl; exact rfl; kernel_rfl; (repeat (first | with_reducible exact Blind.body | with_reducible apply Blind.seq | with_reducible apply Blind.block | with_reducible assumption)); exact r.out) | ((with_reducible apply T_draw (id := 39) 1000 (OT.seq [(0, 1), (0, 2), (0, 3), (1, 0), (1, 4), (0, 5), (1, 6), (0, 7), (0, 8), (0, 9), (1, 10), (0, 11), (0, 12)] .nil)); kernel_rfl; exact rfl; kernel_rfl; (repeat (first | with_reducible exact Blind.body | with_reducible apply Blind.seq | with_reducible apply Blind.block | with_reducible assumption)); exact r.out) | ((with_reducible apply T_draw (id := 41) 1000 (OT.seq [(0, 1), (0, 2), (0, 3), (1, 0), (1, 4), (0, 5), (1, 6), (0, 7), (0, 8), (0, 9), (0, 10), (0, 11)] .nil)); kernel_rfl; exact rfl; kernel_rfl; (repeat (first | with_reducible exact Blind.body | with_reducible apply Blind.seq | with_reducible apply Blind.block | with_reducible assumption)); exact r.out) | ((with_reducible apply T_draw (id := 44) 1000 (OT.seq [(0, 1), (0, 2), (0, 3), (1, 0), (1, 4), (0, 5), (1, 6)] .nil)); kernel_rfl; exact rfl; kernel_rfl; (repeat (first | with_reducible exact Blind.body | with_reducible apply Blind.seq | with_reducible apply Blind.block | with_reducible assumption)); exact r.out) | ((with_reducible apply T_draw (id := 45) 1000 (OT.seq [(0, 1), (0, 2), (0, 3), (1, 0), (1, 4), (0, 5), (0, 6), (1, 7), (0, 8)] .nil)); kernel_rfl; exact rfl; kernel_rfl; (repeat (first | with_reducible exact Blind.body | with_reducible apply Blind.seq | with_reducible apply Blind.block | with_reducible assumption)); exact r.out)) : p := h ⟨r⟩
set_option linter.unusedSectionVars false

theorem Lds.ownAggAs {P : Program} {C : Ctx} {S : List Ent} {α : Type} {enc : α → List Value} {M e g c j s : Nat} {ls : List α} [AggOf P s M] {us : List Value} (hm : entOwn enc M e (some ⟨g, 0, none⟩) c ls ∈ S) (hM : ∀ x, (enc x).length = M) (hj : j < ls.length) (hu : enc ls[j] = us) : Lds P C S s ⟨g, j * M, none⟩ (.agg us.toArray) := by
  subst hu; exact Lds.ownAgg hm hM hj
theorem backF_step {ml : List Ml} {T k : Nat} (hk : k < ml.length) : backF ml T (k + 1) = if ml[k].trip = T ∧ ml[k].st = 2 then ((backF ml T k).1 + 1, if lessT (backF ml T k).2 ml[k].got = true then ml[k].got else (backF ml T k).2) else backF ml T k := by
  rw [backF, show ml.getD k default = ml[k] by simp [hk]]
theorem backF_cle (ml : List Ml) (T : Nat) : ∀ k, (backF ml T k).1 ≤ k
  | 0 => Nat.le_refl _
  | k + 1 => by
    have := backF_cle ml T k
    rw [backF]
    split
    · dsimp only; omega
    · omega
section
variable (gw gp gt gr gn gl gS gN gR n m k : Nat) (a b c d e : Option Addr × Nat) (fast : Bool) (l : List Ac) (B0 D0 : Option Addr) (d0 e0 : Nat) (s : Sv) (w : World) (hk : k < l.length) (hB : RdE Ac.enc 2 w B0 l) (hev : s.evs.length ≤ 5000) (hml : s.ml.length ≤ 5000) (hn5 : n ≤ 5) (q : Nat) (kd : Int) (hk1 : ¬ kd = 1) (hk4 : ¬ kd = 4) (hk2 : ¬ kd = 2) (hlk : l[k] = ⟨kd, (q : Nat)⟩) (hil : q < s.ml.length) (tr si st : Nat) (gs g2 gv : Int) (hpi : s.ml[q] = ⟨tr, si, st, ⟨gs, g2, gv⟩⟩) (htl : tr < s.tr.length) (htr : s.tr.length ≤ 5000) (hat : s.at_.length = n) (hsi : si < n)
include hk hB hev hml hn5 hk1 hk4 hk2 hlk hil hpi htl htr hat hsi
set_option maxRecDepth 100000 in
set_option maxHeartbeats 16000000 in
/-- it is back, of this trip -/
theorem k_back (h1 : st = 1) (W : Nat) (hW : (s.tp tr).who = W) (hWm : W < s.pe.length) (hpm : s.pe.length = m) (hR : (s.p W).trip = tr + 1) (M1 : List Ml) (hM1 : M1 = s.ml.set q ⟨tr, si, 2, ⟨gs, g2, gv⟩⟩) (s' : Sv)
    (Q : Exit → Act → World → Prop) (hQ : Blind Q)
    (htail : ∀ (g27 gL gW cW cL : Nat), T Try.prog ⟨363, [], w⟩ keptT (Exit.inBlock 2 (Exit.inBlock 1 (Exit.then (Cut ⟨363, [], w⟩ (fun z : (Option Addr × Nat) × (Option Addr × Nat) × (Option Addr × Nat) × (Option Addr × Nat) × (Option Addr × Nat) => [(43, .int .i64 (k : Nat)), (17, .slice z.2.2.2.2.1 s'.evs.length z.2.2.2.2.2), (42, .int .i64 (l.length : Nat)), (41, .slice B0 l.length d0), (1, .bool fast), (2, .slice D0 m e0), (4, .pointer (some ⟨gn, 0, none⟩)), (10, .slice (some ⟨gS, 0, none⟩) n n), (11, .pointer (some ⟨gl, 0, none⟩)), (12, .pointer (some ⟨gw, 0, none⟩)), (13, .pointer (some ⟨gp, 0, none⟩)), (14, .pointer (some ⟨gt, 0, none⟩)), (15, .slice (some ⟨gN, 0, none⟩) m m), (16, .pointer (some ⟨gr, 0, none⟩)), (18, .func (.func 31) #[] #[]), (19, .func (.func 32) #[] #[.pointer (some ⟨gw, 0, none⟩), .pointer (some ⟨gp, 0, none⟩), .pointer (some ⟨gt, 0, none⟩), .pointer (some ⟨gr, 0, none⟩), .pointer (some ⟨gn, 0, none⟩), .pointer (some ⟨gl, 0, none⟩)])]) (fun z => [entBlk gw 58 #[.slice z.1.1 (whoL s').length z.1.2], entOwn natEnc 1 3 z.1.1 z.1.2 (whoL s'), entBlk gp 90 #[.slice z.2.1.1 (putL s').length z.2.1.2], entOwn boolEnc 1 4 z.2.1.1 z.2.1.2 (putL s'), entBlk gt 91 #[.slice z.2.2.1.1 (tagL s').length z.2.2.1.2], entOwn Tg.enc 3 92 z.2.2.1.1 z.2.2.1.2 (tagL s'), entBlk gr 58 #[.slice (some ⟨gR, 0, none⟩) m m], entBlk gn 3 #[.int .i64 (n : Nat)], entOwn natEnc 1 3 (some ⟨gR, 0, none⟩) m (tripL s'), entBlk gl 89 #[.slice z.2.2.2.1.1 s'.ml.length z.2.2.2.1.2], entOwn Ml.enc 6 95 z.2.2.2.1.1 z.2.2.2.1.2 s'.ml, entOwn Si.enc 4 37 (some ⟨gS, 0, none⟩) n s'.at_, entOwn natEnc 1 3 (some ⟨gN, 0, none⟩) m (nextL s'), entOwn Ev.enc 4 34 z.2.2.2.2.1 z.2.2.2.2.2 s'.evs]) (fun _ => True)) Q))) ((26, .int .i64 ((backF M1 tr M1.length).1 : Nat)) :: (27, .pointer (some ⟨g27, 0, none⟩)) :: [(23, .pointer (some ⟨gL, q * 6, none⟩)), (25, .int .i64 (W : Nat)), (43, .int .i64 (k : Nat)), (17, .slice e.1 s.evs.length e.2), (42, .int .i64 (l.length : Nat)), (41, .slice B0 l.length d0), (1, .bool fast), (2, .slice D0 m e0), (4, .pointer (some ⟨gn, 0, none⟩)), (10, .slice (some ⟨gS, 0, none⟩) n n), (11, .pointer (some ⟨gl, 0, none⟩)), (12, .pointer (some ⟨gw, 0, none⟩)), (13, .pointer (some ⟨gp, 0, none⟩)), (14, .pointer (some ⟨gt, 0, none⟩)), (15, .slice (some ⟨gN, 0, none⟩) m m), (16, .pointer (some ⟨gr, 0, none⟩)), (18, .func (.func 31) #[] #[]), (19, .func (.func 32) #[] #[.pointer (some ⟨gw, 0, none⟩), .pointer (some ⟨gp, 0, none⟩), .pointer (some ⟨gt, 0, none⟩), .pointer (some ⟨gr, 0, none⟩), .pointer (some ⟨gn, 0, none⟩), .pointer (some ⟨gl, 0, none⟩)])]) (entBlk g27 92 #[.int .i64 (backF M1 tr M1.length).2.s, .int .i64 (backF M1 tr M1.length).2.w, .int .i64 (backF M1 tr M1.length).2.v] :: [entBlk gw 58 #[.slice (some ⟨gW, 0, none⟩) (whoL s).length cW], entOwn natEnc 1 3 (some ⟨gW, 0, none⟩) cW (whoL s), entBlk gp 90 #[.slice b.1 (putL s).length b.2], entOwn boolEnc 1 4 b.1 b.2 (putL s), entBlk gt 91 #[.slice c.1 (tagL s).length c.2], entOwn Tg.enc 3 92 c.1 c.2 (tagL s), entBlk gr 58 #[.slice (some ⟨gR, 0, none⟩) m m], entBlk gn 3 #[.int .i64 (n : Nat)], entOwn natEnc 1 3 (some ⟨gR, 0, none⟩) m (tripL s), entBlk gl 89 #[.slice (some ⟨gL, 0, none⟩) M1.length cL], entOwn Ml.enc 6 95 (some ⟨gL, 0, none⟩) cL M1, entOwn Si.enc 4 37 (some ⟨gS, 0, none⟩) n s.at_, entOwn natEnc 1 3 (some ⟨gN, 0, none⟩) m (nextL s), entOwn Ev.enc 4 34 e.1 e.2 s.evs])) :
    T Try.prog ⟨363, [], w⟩ keptB (Exit.inBlock 1 (Exit.then (Cut ⟨363, [], w⟩ (fun z : (Option Addr × Nat) × (Option Addr × Nat) × (Option Addr × Nat) × (Option Addr × Nat) × (Option Addr × Nat) => [(43, .int .i64 (k : Nat)), (17, .slice z.2.2.2.2.1 s'.evs.length z.2.2.2.2.2), (42, .int .i64 (l.length : Nat)), (41, .slice B0 l.length d0), (1, .bool fast), (2, .slice D0 m e0), (4, .pointer (some ⟨gn, 0, none⟩)), (10, .slice (some ⟨gS, 0, none⟩) n n), (11, .pointer (some ⟨gl, 0, none⟩)), (12, .pointer (some ⟨gw, 0, none⟩)), (13, .pointer (some ⟨gp, 0, none⟩)), (14, .pointer (some ⟨gt, 0, none⟩)), (15, .slice (some ⟨gN, 0, none⟩) m m), (16, .pointer (some ⟨gr, 0, none⟩)), (18, .func (.func 31) #[] #[]), (19, .func (.func 32) #[] #[.pointer (some ⟨gw, 0, none⟩), .pointer (some ⟨gp, 0, none⟩), .pointer (some ⟨gt, 0, none⟩), .pointer (some ⟨gr, 0, none⟩), .pointer (some ⟨gn, 0, none⟩), .pointer (some ⟨gl, 0, none⟩)])]) (fun z => [entBlk gw 58 #[.slice z.1.1 (whoL s').length z.1.2], entOwn natEnc 1 3 z.1.1 z.1.2 (whoL s'), entBlk gp 90 #[.slice z.2.1.1 (putL s').length z.2.1.2], entOwn boolEnc 1 4 z.2.1.1 z.2.1.2 (putL s'), entBlk gt 91 #[.slice z.2.2.1.1 (tagL s').length z.2.2.1.2], entOwn Tg.enc 3 92 z.2.2.1.1 z.2.2.1.2 (tagL s'), entBlk gr 58 #[.slice (some ⟨gR, 0, none⟩) m m], entBlk gn 3 #[.int .i64 (n : Nat)], entOwn natEnc 1 3 (some ⟨gR, 0, none⟩) m (tripL s'), entBlk gl 89 #[.slice z.2.2.2.1.1 s'.ml.length z.2.2.2.1.2], entOwn Ml.enc 6 95 z.2.2.2.1.1 z.2.2.2.1.2 s'.ml, entOwn Si.enc 4 37 (some ⟨gS, 0, none⟩) n s'.at_, entOwn natEnc 1 3 (some ⟨gN, 0, none⟩) m (nextL s'), entOwn Ev.enc 4 34 z.2.2.2.2.1 z.2.2.2.2.2 s'.evs]) (fun _ => True)) Q)) [(43, .int .i64 (k : Nat)), (17, .slice e.1 s.evs.length e.2), (42, .int .i64 (l.length : Nat)), (41, .slice B0 l.length d0), (1, .bool fast), (2, .slice D0 m e0), (4, .pointer (some ⟨gn, 0, none⟩)), (10, .slice (some ⟨gS, 0, none⟩) n n), (11, .pointer (some ⟨gl, 0, none⟩)), (12, .pointer (some ⟨gw, 0, none⟩)), (13, .pointer (some ⟨gp, 0, none⟩)), (14, .pointer (some ⟨gt, 0, none⟩)), (15, .slice (some ⟨gN, 0, none⟩) m m), (16, .pointer (some ⟨gr, 0, none⟩)), (18, .func (.func 31) #[] #[]), (19, .func (.func 32) #[] #[.pointer (some ⟨gw, 0, none⟩), .pointer (some ⟨gp, 0, none⟩), .pointer (some ⟨gt, 0, none⟩), .pointer (some ⟨gr, 0, none⟩), .pointer (some ⟨gn, 0, none⟩), .pointer (some ⟨gl, 0, none⟩)])] [entBlk gw 58 #[.slice a.1 (whoL s).length a.2], entOwn natEnc 1 3 a.1 a.2 (whoL s), entBlk gp 90 #[.slice b.1 (putL s).length b.2], entOwn boolEnc 1 4 b.1 b.2 (putL s), entBlk gt 91 #[.slice c.1 (tagL s).length c.2], entOwn Tg.enc 3 92 c.1 c.2 (tagL s), entBlk gr 58 #[.slice (some ⟨gR, 0, none⟩) m m], entBlk gn 3 #[.int .i64 (n : Nat)], entOwn natEnc 1 3 (some ⟨gR, 0, none⟩) m (tripL s), entBlk gl 89 #[.slice d.1 s.ml.length d.2], entOwn Ml.enc 6 95 d.1 d.2 s.ml, entOwn Si.enc 4 37 (some ⟨gS, 0, none⟩) n s.at_, entOwn natEnc 1 3 (some ⟨gN, 0, none⟩) m (nextL s), entOwn Ev.enc 4 34 e.1 e.2 s.evs] := by
  have hpi1 : s.ml[q]? = some _ := (List.getElem?_eq_getElem hil).trans (congrArg some hpi)
  obtain ⟨bB, oB, rfl, _⟩ := RdE.open hB (by omega); have hAct : ∀ S, Lds Try.prog ⟨363, [], w⟩ S 86 ⟨bB, oB + k * 2, none⟩ (.agg #[.int .i64 kd, .int .i64 (q : Nat)]) := (fun S => by (have := Lds.rdAgg (P := Try.prog) (C := ⟨363, [], w⟩) (S := S) (s := 86) hB (by intro x; rfl) (by simp) hk); rw [hlk] at this; exact this); clear hlk
  obtain ⟨AW, cW⟩ := a
  obtain ⟨AL, cL⟩ := d
  subst h1
  have hWl : tr < (whoL s).length := by simpa [whoL] using htl
  have eW := whoL_at htl
  rw [hW] at eW
  have hRl : W < (tripL s).length := by simpa [tripL] using hWm
  have eR := tripL_at hWm
  rw [hR] at eR
  have hst2 : (((1 : Nat) : Int)) = 1 := rfl
  have hst3 : (((tr + 1 : Nat) : Int)) = ((tr : Nat) : Int) + 1 := by omega
  have hil2 : q < M1.length := by rw [hM1, List.length_set]; exact hil
  have hpi2 : M1[q] = ⟨tr, si, 2, ⟨gs, g2, gv⟩⟩ := by subst hM1; simp
  have hM1l : M1.length = s.ml.length := by rw [hM1, List.length_set]
  clear hW hR
  unfold keptB
  conv => arg 3; whnf
  refine T_own (enc := Ml.enc) (ls := s.ml) (by first | ((repeat (first | with_reducible exact List.mem_cons_self | with_reducible apply List.mem_cons_of_mem)); done) | (repeat (first | exact List.Mem.head _ | apply List.Mem.tail))) (by omega) ?_
  rintro gL rfl
  refine T_own (enc := natEnc) (ls := whoL s) (by first | ((repeat (first | with_reducible exact List.mem_cons_self | with_reducible apply List.mem_cons_of_mem)); done) | (repeat (first | exact List.Mem.head _ | apply List.Mem.tail))) (by omega) ?_
  rintro gW rfl
  repeat' (first
    | ((with_reducible refine T_cutIf (X := Nat) 29 (fun z => (26, .int .i64 ((backF M1 tr M1.length).1 : Nat)) :: (27, .pointer (some ⟨z, 0, none⟩)) :: [(23, .pointer (some ⟨gL, q * 6, none⟩)), (25, .int .i64 (W : Nat)), (43, .int .i64 (k : Nat)), (17, .slice e.1 s.evs.length e.2), (42, .int .i64 (l.length : Nat)), (41, .slice (some ⟨bB, oB, none⟩) l.length d0), (1, .bool fast), (2, .slice D0 m e0), (4, .pointer (some ⟨gn, 0, none⟩)), (10, .slice (some ⟨gS, 0, none⟩) n n), (11, .pointer (some ⟨gl, 0, none⟩)), (12, .pointer (some ⟨gw, 0, none⟩)), (13, .pointer (some ⟨gp, 0, none⟩)), (14, .pointer (some ⟨gt, 0, none⟩)), (15, .slice (some ⟨gN, 0, none⟩) m m), (16, .pointer (some ⟨gr, 0, none⟩)), (18, .func (.func 31) #[] #[]), (19, .func (.func 32) #[] #[.pointer (some ⟨gw, 0, none⟩), .pointer (some ⟨gp, 0, none⟩), .pointer (some ⟨gt, 0, none⟩), .pointer (some ⟨gr, 0, none⟩), .pointer (some ⟨gn, 0, none⟩), .pointer (some ⟨gl, 0, none⟩)])]) (fun z => entBlk z 92 #[.int .i64 (backF M1 tr M1.length).2.s, .int .i64 (backF M1 tr M1.length).2.w, .int .i64 (backF M1 tr M1.length).2.v] :: [entBlk gw 58 #[.slice (some ⟨gW, 0, none⟩) (whoL s).length cW], entOwn natEnc 1 3 (some ⟨gW, 0, none⟩) cW (whoL s), entBlk gp 90 #[.slice b.1 (putL s).length b.2], entOwn boolEnc 1 4 b.1 b.2 (putL s), entBlk gt 91 #[.slice c.1 (tagL s).length c.2], entOwn Tg.enc 3 92 c.1 c.2 (tagL s), entBlk gr 58 #[.slice (some ⟨gR, 0, none⟩) m m], entBlk gn 3 #[.int .i64 (n : Nat)], entOwn natEnc 1 3 (some ⟨gR, 0, none⟩) m (tripL s), entBlk gl 89 #[.slice (some ⟨gL, 0, none⟩) M1.length cL], entOwn Ml.enc 6 95 (some ⟨gL, 0, none⟩) cL M1, entOwn Si.enc 4 37 (some ⟨gS, 0, none⟩) n s.at_, entOwn natEnc 1 3 (some ⟨gN, 0, none⟩) m (nextL s), entOwn Ev.enc 4 34 e.1 e.2 s.evs]) (fun _ => True) ?_ ?_))
    | ((first | with_reducible (first | apply TL_q | apply TD_q0 | apply TD_q1 | apply TD_q2 | apply TD_q3) | ((with_reducible (first | apply TD_q0y | apply TD_q1y)); exact rfl; exact rfl; (with_reducible exact rfl))); exact QSarm_SvR; exact rfl) | ((with_reducible (first | apply TD_e2z | apply TD_e3z | apply TL_e | apply TD_e2 | apply TD_e3)); exact ESarm_SvR; (first | exact rfl | exact ⟨rfl, rfl, rfl⟩); (first | (rintro _ _ ⟨rfl, rfl⟩) | (rintro _ _ ⟨g, rfl, rfl⟩) | (rintro _ _ ⟨A', c', rfl, rfl⟩)); (try refine ⟨SUB, ?_⟩)) | (refine GG ?_) | (refine GE ?_; (first | (rintro _ _ ⟨rfl, rfl⟩) | (rintro _ _ ⟨g, rfl, rfl⟩) | (rintro _ _ ⟨A', c', rfl, rfl⟩)); (try refine ⟨SUB, ?_⟩)) | ((refine GO2 ?_ ?_) <;> intro h <;> (try (repeat (first | with_reducible (replace h := of_decide_eq_true h) | with_reducible (replace h := of_decide_eq_false h) | with_reducible (replace h := bnt h) | with_reducible (replace h := bnf h) | with_reducible (replace h := Int.not_lt.mp h) | with_reducible (replace h := Int.not_le.mp h) | with_reducible (replace h := band_dec h) | with_reducible (replace h := band_decF h) | with_reducible (replace h := bor_dec h) | with_reducible (replace h := bor_decF h)))) <;> (try (exfalso; first | contradiction | omega))) | (refine GOF ?_ ?_) | (refine DRarm0_SvR ?_) | exact hQ | ((with_reducible (first | apply TD_e2z | apply TD_e3z | apply TL_e | apply TD_e2 | apply TD_e3)); ((with_reducible apply ES_callV (f := 20)); exact rfl; (intro w hw; exact between_C _ _ _ w); exact rfl); (first | exact rfl | exact ⟨rfl, rfl, rfl⟩); (rintro _ _ ⟨rfl, rfl⟩); (try refine ⟨SUB, ?_⟩)) | fail)
  all_goals first | (exfalso; omega) | skip
  obtain ⟨gm, rfl⟩ : ∃ x, x = g := ⟨_, rfl⟩
  refine T_loop (X := Nat) (fun x => [(190, .int .i64 (x : Nat)), (189, .int .i64 (M1.length : Nat)), (188, .slice (some ⟨gL, 0, none⟩) M1.length cL), (26, .int .i64 ((backF M1 tr x).1 : Nat)), (27, .pointer (some ⟨gm, 0, none⟩)), (23, .pointer (some ⟨gL, q * 6, none⟩)), (25, .int .i64 (W : Nat)), (43, .int .i64 (k : Nat)), (17, .slice e.1 s.evs.length e.2), (42, .int .i64 (l.length : Nat)), (41, .slice (some ⟨bB, oB, none⟩) l.length d0), (1, .bool fast), (2, .slice D0 m e0), (4, .pointer (some ⟨gn, 0, none⟩)), (10, .slice (some ⟨gS, 0, none⟩) n n), (11, .pointer (some ⟨gl, 0, none⟩)), (12, .pointer (some ⟨gw, 0, none⟩)), (13, .pointer (some ⟨gp, 0, none⟩)), (14, .pointer (some ⟨gt, 0, none⟩)), (15, .slice (some ⟨gN, 0, none⟩) m m), (16, .pointer (some ⟨gr, 0, none⟩)), (18, .func (.func 31) #[] #[]), (19, .func (.func 32) #[] #[.pointer (some ⟨gw, 0, none⟩), .pointer (some ⟨gp, 0, none⟩), .pointer (some ⟨gt, 0, none⟩), .pointer (some ⟨gr, 0, none⟩), .pointer (some ⟨gn, 0, none⟩), .pointer (some ⟨gl, 0, none⟩)])]) (fun x => [entBlk gm 92 #[.int .i64 (backF M1 tr x).2.s, .int .i64 (backF M1 tr x).2.w, .int .i64 (backF M1 tr x).2.v], entBlk gw 58 #[.slice (some ⟨gW, 0, none⟩) (whoL s).length cW], entOwn natEnc 1 3 (some ⟨gW, 0, none⟩) cW (whoL s), entBlk gp 90 #[.slice b.1 (putL s).length b.2], entOwn boolEnc 1 4 b.1 b.2 (putL s), entBlk gt 91 #[.slice c.1 (tagL s).length c.2], entOwn Tg.enc 3 92 c.1 c.2 (tagL s), entBlk gr 58 #[.slice (some ⟨gR, 0, none⟩) m m], entBlk gn 3 #[.int .i64 (n : Nat)], entOwn natEnc 1 3 (some ⟨gR, 0, none⟩) m (tripL s), entBlk gl 89 #[.slice (some ⟨gL, 0, none⟩) M1.length cL], entOwn Ml.enc 6 95 (some ⟨gL, 0, none⟩) cL M1, entOwn Si.enc 4 37 (some ⟨gS, 0, none⟩) n s.at_, entOwn natEnc 1 3 (some ⟨gN, 0, none⟩) m (nextL s), entOwn Ev.enc 4 34 e.1 e.2 s.evs]) (fun x => x ≤ M1.length) (fun x => M1.length - x) 0 (by omega) (by rw [hM1l]; dsimp only [backF]; (repeat (first | exact SubE.nil _ | refine SubE.cons rfl ?_))) (fun w' hw => by
    rw [hM1l]
    dsimp only [backF, t0]
    rw [hM1]
    exact hw.sel (by (repeat (first | exact Sel.nil _ | (apply Sel.cons; (repeat (first | with_reducible exact Pick.here _ _ | with_reducible apply Pick.there))))))) ?_
  intro x hx
  have hrd : M1.length ≤ 5000 := by omega
  clear hM1 hpi hpi1 hAct
  by_cases hxl : x < M1.length
  · have hst := backF_step (ml := M1) (T := tr) hxl
    obtain ⟨⟨xt, xs, xq, ⟨xa, xb, xc⟩⟩, hpx⟩ : ∃ y, M1[x] = y := ⟨_, rfl⟩
    have hpe : Ml.enc M1[x] = [.int .i64 (xt : Nat), .int .i64 (xs : Nat), .int .i64 (xq : Nat), .int .i64 xa, .int .i64 xb, .int .i64 xc] := by rw [hpx]; exact Ml.enc_mk _ _ _ _ _ _
    rw [hpx] at hst
    dsimp only at hst
    have hcl := backF_cle M1 tr x
    obtain ⟨⟨cn, ⟨ma, mb, mc⟩⟩, hF⟩ : ∃ y, backF M1 tr x = y := ⟨_, rfl⟩
    rw [hF] at hst hcl ⊢
    dsimp only at hst hcl ⊢
    clear hpx hF
    by_cases hA : xt = tr ∧ xq = 2
    · rw [if_pos hA] at hst
      obtain ⟨rfl, rfl⟩ := hA
      have hA1 : ((xt : Nat) : Int) = ((xt : Nat) : Int) := rfl
      have hA2 : ((2 : Nat) : Int) = 2 := rfl
      by_cases hL : lessT ⟨ma, mb, mc⟩ ⟨xa, xb, xc⟩ = true
      · rw [if_pos hL] at hst
        have hlt := fun w' => lessT_any ⟨ma, mb, mc⟩ ⟨xa, xb, xc⟩ w'
        rw [hL] at hlt
        repeat' (first | ((first | with_reducible (first | apply TL_q | apply TD_q0 | apply TD_q1 | apply TD_q2 | apply TD_q3) | ((with_reducible (first | apply TD_q0y | apply TD_q1y)); exact rfl; exact rfl; (with_reducible exact rfl))); exact QSarm_SvR; exact rfl) | ((with_reducible (first | apply TD_e2z | apply TD_e3z | apply TL_e | apply TD_e2 | apply TD_e3)); exact ESarm_SvR; (first | exact rfl | exact ⟨rfl, rfl, rfl⟩); (first | (rintro _ _ ⟨rfl, rfl⟩) | (rintro _ _ ⟨g, rfl, rfl⟩) | (rintro _ _ ⟨A', c', rfl, rfl⟩)); (try refine ⟨SUB, ?_⟩)) | (refine GG ?_) | (refine GE ?_; (first | (rintro _ _ ⟨rfl, rfl⟩) | (rintro _ _ ⟨g, rfl, rfl⟩) | (rintro _ _ ⟨A', c', rfl, rfl⟩)); (try refine ⟨SUB, ?_⟩)) | ((refine GO2 ?_ ?_) <;> intro h <;> (try (repeat (first | with_reducible (replace h := of_decide_eq_true h) | with_reducible (replace h := of_decide_eq_false h) | with_reducible (replace h := bnt h) | with_reducible (replace h := bnf h) | with_reducible (replace h := Int.not_lt.mp h) | with_reducible (replace h := Int.not_le.mp h) | with_reducible (replace h := band_dec h) | with_reducible (replace h := band_decF h) | with_reducible (replace h := bor_dec h) | with_reducible (replace h := bor_decF h)))) <;> (try (exfalso; first | contradiction | omega))) | (refine GOF ?_ ?_) | (refine DRarm0_SvR ?_) | exact hQ | ((with_reducible (first | apply TD_e2z | apply TD_e3z | apply TL_e | apply TD_e2 | apply TD_e3)); ((with_reducible apply ES_callFV (f := 31) (v := .bool true)); exact rfl; exact rfl; (intro w1' hw; exact hlt w1'); exact rfl); (first | exact rfl | exact ⟨rfl, rfl, rfl⟩); (rintro _ _ ⟨rfl, rfl⟩); (try refine ⟨SUB, ?_⟩)) | fail)
        all_goals (apply At_rounds (x + 1); (case hE => ((try dsimp only); rw [hst]; (repeat (first | exact SubE.nil _ | refine SubE.cons rfl ?_)))); (case hS => (intro w' hw; (try dsimp only); rw [hst]; exact hw.sel (by (repeat (first | exact Sel.nil _ | (apply Sel.cons; (repeat (first | with_reducible exact Pick.here _ _ | with_reducible apply Pick.there)))))))); (case hμ => ((try dsimp only); omega)); (case hp => exact hxl))
      · rw [if_neg hL] at hst
        have hL : lessT ⟨ma, mb, mc⟩ ⟨xa, xb, xc⟩ = false := by simpa using hL
        have hlt := fun w' => lessT_any ⟨ma, mb, mc⟩ ⟨xa, xb, xc⟩ w'
        rw [hL] at hlt
        repeat' (first | ((first | with_reducible (first | apply TL_q | apply TD_q0 | apply TD_q1 | apply TD_q2 | apply TD_q3) | ((with_reducible (first | apply TD_q0y | apply TD_q1y)); exact rfl; exact rfl; (with_reducible exact rfl))); exact QSarm_SvR; exact rfl) | ((with_reducible (first | apply TD_e2z | apply TD_e3z | apply TL_e | apply TD_e2 | apply TD_e3)); exact ESarm_SvR; (first | exact rfl | exact ⟨rfl, rfl, rfl⟩); (first | (rintro _ _ ⟨rfl, rfl⟩) | (rintro _ _ ⟨g, rfl, rfl⟩) | (rintro _ _ ⟨A', c', rfl, rfl⟩)); (try refine ⟨SUB, ?_⟩)) | (refine GG ?_) | (refine GE ?_; (first | (rintro _ _ ⟨rfl, rfl⟩) | (rintro _ _ ⟨g, rfl, rfl⟩) | (rintro _ _ ⟨A', c', rfl, rfl⟩)); (try refine ⟨SUB, ?_⟩)) | ((refine GO2 ?_ ?_) <;> intro h <;> (try (repeat (first | with_reducible (replace h := of_decide_eq_true h) | with_reducible (replace h := of_decide_eq_false h) | with_reducible (replace h := bnt h) | with_reducible (replace h := bnf h) | with_reducible (replace h := Int.not_lt.mp h) | with_reducible (replace h := Int.not_le.mp h) | with_reducible (replace h := band_dec h) | with_reducible (replace h := band_decF h) | with_reducible (replace h := bor_dec h) | with_reducible (replace h := bor_decF h)))) <;> (try (exfalso; first | contradiction | omega))) | (refine GOF ?_ ?_) | (refine DRarm0_SvR ?_) | exact hQ | ((with_reducible (first | apply TD_e2z | apply TD_e3z | apply TL_e | apply TD_e2 | apply TD_e3)); ((with_reducible apply ES_callFV (f := 31) (v := .bool false)); exact rfl; exact rfl; (intro w1' hw; exact hlt w1'); exact rfl); (first | exact rfl | exact ⟨rfl, rfl, rfl⟩); (rintro _ _ ⟨rfl, rfl⟩); (try refine ⟨SUB, ?_⟩)) | fail)
        all_goals (apply At_rounds (x + 1); (case hE => ((try dsimp only); rw [hst]; (repeat (first | exact SubE.nil _ | refine SubE.cons rfl ?_)))); (case hS => (intro w' hw; (try dsimp only); rw [hst]; exact hw.sel (by (repeat (first | exact Sel.nil _ | (apply Sel.cons; (repeat (first | with_reducible exact Pick.here _ _ | with_reducible apply Pick.there)))))))); (case hμ => ((try dsimp only); omega)); (case hp => exact hxl))
    · rw [if_neg hA] at hst
      by_cases hB1 : xt = tr
      · subst hB1
        have hA1 : ((xt : Nat) : Int) = ((xt : Nat) : Int) := rfl
        have hB2 : ¬ ((xq : Nat) : Int) = 2 := fun hh => hA ⟨rfl, by omega⟩
        repeat' (first | ((first | with_reducible (first | apply TL_q | apply TD_q0 | apply TD_q1 | apply TD_q2 | apply TD_q3) | ((with_reducible (first | apply TD_q0y | apply TD_q1y)); exact rfl; exact rfl; (with_reducible exact rfl))); exact QSarm_SvR; exact rfl) | ((with_reducible (first | apply TD_e2z | apply TD_e3z | apply TL_e | apply TD_e2 | apply TD_e3)); exact ESarm_SvR; (first | exact rfl | exact ⟨rfl, rfl, rfl⟩); (first | (rintro _ _ ⟨rfl, rfl⟩) | (rintro _ _ ⟨g, rfl, rfl⟩) | (rintro _ _ ⟨A', c', rfl, rfl⟩)); (try refine ⟨SUB, ?_⟩)) | (refine GG ?_) | (refine GE ?_; (first | (rintro _ _ ⟨rfl, rfl⟩) | (rintro _ _ ⟨g, rfl, rfl⟩) | (rintro _ _ ⟨A', c', rfl, rfl⟩)); (try refine ⟨SUB, ?_⟩)) | ((refine GO2 ?_ ?_) <;> intro h <;> (try (repeat (first | with_reducible (replace h := of_decide_eq_true h) | with_reducible (replace h := of_decide_eq_false h) | with_reducible (replace h := bnt h) | with_reducible (replace h := bnf h) | with_reducible (replace h := Int.not_lt.mp h) | with_reducible (replace h := Int.not_le.mp h) | with_reducible (replace h := band_dec h) | with_reducible (replace h := band_decF h) | with_reducible (replace h := bor_dec h) | with_reducible (replace h := bor_decF h)))) <;> (try (exfalso; first | contradiction | omega))) | (refine GOF ?_ ?_) | (refine DRarm0_SvR ?_) | exact hQ | ((with_reducible (first | apply TD_e2z | apply TD_e3z | apply TL_e | apply TD_e2 | apply TD_e3)); ((with_reducible apply ES_callFV (f := 31) (v := .bool true)); exact rfl; exact rfl; (intro w1' hw; exact hlt w1'); exact rfl); (first | exact rfl | exact ⟨rfl, rfl, rfl⟩); (rintro _ _ ⟨rfl, rfl⟩); (try refine ⟨SUB, ?_⟩)) | fail)
        all_goals (apply At_rounds (x + 1); (case hE => ((try dsimp only); rw [hst]; (repeat (first | exact SubE.nil _ | refine SubE.cons rfl ?_)))); (case hS => (intro w' hw; (try dsimp only); rw [hst]; exact hw.sel (by (repeat (first | exact Sel.nil _ | (apply Sel.cons; (repeat (first | with_reducible exact Pick.here _ _ | with_reducible apply Pick.there)))))))); (case hμ => ((try dsimp only); omega)); (case hp => exact hxl))
      · have hB2 : ¬ ((xt : Nat) : Int) = ((tr : Nat) : Int) := fun hh => hB1 (by omega)
        repeat' (first | ((first | with_reducible (first | apply TL_q | apply TD_q0 | apply TD_q1 | apply TD_q2 | apply TD_q3) | ((with_reducible (first | apply TD_q0y | apply TD_q1y)); exact rfl; exact rfl; (with_reducible exact rfl))); exact QSarm_SvR; exact rfl) | ((with_reducible (first | apply TD_e2z | apply TD_e3z | apply TL_e | apply TD_e2 | apply TD_e3)); exact ESarm_SvR; (first | exact rfl | exact ⟨rfl, rfl, rfl⟩); (first | (rintro _ _ ⟨rfl, rfl⟩) | (rintro _ _ ⟨g, rfl, rfl⟩) | (rintro _ _ ⟨A', c', rfl, rfl⟩)); (try refine ⟨SUB, ?_⟩)) | (refine GG ?_) | (refine GE ?_; (first | (rintro _ _ ⟨rfl, rfl⟩) | (rintro _ _ ⟨g, rfl, rfl⟩) | (rintro _ _ ⟨A', c', rfl, rfl⟩)); (try refine ⟨SUB, ?_⟩)) | ((refine GO2 ?_ ?_) <;> intro h <;> (try (repeat (first | with_reducible (replace h := of_decide_eq_true h) | with_reducible (replace h := of_decide_eq_false h) | with_reducible (replace h := bnt h) | with_reducible (replace h := bnf h) | with_reducible (replace h := Int.not_lt.mp h) | with_reducible (replace h := Int.not_le.mp h) | with_reducible (replace h := band_dec h) | with_reducible (replace h := band_decF h) | with_reducible (replace h := bor_dec h) | with_reducible (replace h := bor_decF h)))) <;> (try (exfalso; first | contradiction | omega))) | (refine GOF ?_ ?_) | (refine DRarm0_SvR ?_) | exact hQ | ((with_reducible (first | apply TD_e2z | apply TD_e3z | apply TL_e | apply TD_e2 | apply TD_e3)); ((with_reducible apply ES_callFV (f := 31) (v := .bool true)); exact rfl; exact rfl; (intro w1' hw; exact hlt w1'); exact rfl); (first | exact rfl | exact ⟨rfl, rfl, rfl⟩); (rintro _ _ ⟨rfl, rfl⟩); (try refine ⟨SUB, ?_⟩)) | fail)
        all_goals (apply At_rounds (x + 1); (case hE => ((try dsimp only); rw [hst]; (repeat (first | exact SubE.nil _ | refine SubE.cons rfl ?_)))); (case hS => (intro w' hw; (try dsimp only); rw [hst]; exact hw.sel (by (repeat (first | exact Sel.nil _ | (apply Sel.cons; (repeat (first | with_reducible exact Pick.here _ _ | with_reducible apply Pick.there)))))))); (case hμ => ((try dsimp only); omega)); (case hp => exact hxl))
  · obtain rfl : x = M1.length := by omega
    repeat' (first | ((first | with_reducible (first | apply TL_q | apply TD_q0 | apply TD_q1 | apply TD_q2 | apply TD_q3) | ((with_reducible (first | apply TD_q0y | apply TD_q1y)); exact rfl; exact rfl; (with_reducible exact rfl))); exact QSarm_SvR; exact rfl) | ((with_reducible (first | apply TD_e2z | apply TD_e3z | apply TL_e | apply TD_e2 | apply TD_e3)); exact ESarm_SvR; (first | exact rfl | exact ⟨rfl, rfl, rfl⟩); (first | (rintro _ _ ⟨rfl, rfl⟩) | (rintro _ _ ⟨g, rfl, rfl⟩) | (rintro _ _ ⟨A', c', rfl, rfl⟩)); (try refine ⟨SUB, ?_⟩)) | (refine GO ?_) | (refine GOE ?_; (first | (rintro _ _ ⟨rfl, rfl⟩) | (rintro _ _ ⟨g, rfl, rfl⟩) | (rintro _ _ ⟨A', c', rfl, rfl⟩))) | ((refine GO2 ?_ ?_) <;> intro h <;> (try (repeat (first | with_reducible (replace h := of_decide_eq_true h) | with_reducible (replace h := of_decide_eq_false h) | with_reducible (replace h := bnt h) | with_reducible (replace h := bnf h) | with_reducible (replace h := Int.not_lt.mp h) | with_reducible (replace h := Int.not_le.mp h) | with_reducible (replace h := band_dec h) | with_reducible (replace h := band_decF h) | with_reducible (replace h := bor_dec h) | with_reducible (replace h := bor_decF h)))) <;> (try (exfalso; first | contradiction | omega))) | fail)
    exact At_cut gm trivial (by (repeat (first | exact SubE.nil _ | refine SubE.cons rfl ?_))) (fun w hw => hw.sel (by (repeat (first | exact Sel.nil _ | (apply Sel.cons; (repeat (first | with_reducible exact Pick.here _ _ | with_reducible apply Pick.there)))))))
  · intro z _
    exact htail z gL gW cW cL
end
end Go.Proofs.Ytaonijdhmgcbjaa

namespace Go.Proofs.Ytaonijdhmgcbjaa
open Go.RowKit
set_option linter.unusedSectionVars false

theorem handV_no {s : Sv} {q tr si st : Nat} {g : Tg} {x : Si} (he : s.le q = ⟨tr, si, st, g⟩) (hx : s.si si = x) (h : ¬ (st = 0 ∧ x.down = false)) : handV s q = s := by
  subst hx
  unfold handV
  rw [he]
  exact if_neg h
theorem handV_keep {s : Sv} {q tr si st : Nat} {g : Tg} {x : Si} (he : s.le q = ⟨tr, si, st, g⟩) (hx : s.si si = x) (h : st = 0 ∧ x.down = false) (hp : ¬ ((s.tp tr).put = true ∧ lessT x.tg (s.tp tr).tag = true)) : handV s q = { s with ml := s.ml.set q ⟨tr, si, 1, x.tg⟩ } := by
  subst hx
  unfold handV
  rw [he]
  exact (if_pos h).trans (congrArg (fun a => ({ s with ml := s.ml.set q ⟨tr, si, 1, (s.si si).tg⟩, at_ := a } : Sv)) (if_neg hp))
theorem handV_put {s : Sv} {q tr si st : Nat} {g : Tg} {x : Si} (he : s.le q = ⟨tr, si, st, g⟩) (hx : s.si si = x) (h : st = 0 ∧ x.down = false) (hp : (s.tp tr).put = true ∧ lessT x.tg (s.tp tr).tag = true) : handV s q = { s with ml := s.ml.set q ⟨tr, si, 1, x.tg⟩, at_ := s.at_.set si ⟨(s.tp tr).tag.s, (s.tp tr).tag.w, (s.tp tr).tag.v, x.down⟩ } := by
  subst hx
  unfold handV
  rw [he]
  exact (if_pos h).trans (congrArg (fun a => ({ s with ml := s.ml.set q ⟨tr, si, 1, (s.si si).tg⟩, at_ := a } : Sv)) (if_pos hp))
theorem cntP_n {p : Nat → Bool} {n : Nat} : cntP p n ≤ n := cntP_le p n
section
variable (gw gp gt gr gn gl gS gN gR n m k : Nat) (a b c d e : Option Addr × Nat) (fast : Bool) (l : List Ac) (B0 D0 : Option Addr) (d0 e0 : Nat) (s : Sv) (w : World) (ps : List (List Ak)) (K : Nat) (hs : List Hd) (hk : k < l.length) (hB : RdE Ac.enc 2 w B0 l) (hD : RdRows Ak.enc 3 w D0 hs ps) (hm : hs.length = m) (h8 : ps.length ≤ 8) (hok : SvOk n ps K s) (hK : K ≤ 1000) (hn5 : n ≤ 5) (hx : actR n ps.length l[k])
include hk hB hD hm h8 hok hK hn5 hx
theorem k_round (s' : Sv) (hs' : s' = actV n fast ps s l[k]) (Q : Exit → Act → World → Prop) (hQ : Blind Q) : T Try.prog ⟨363, [], w⟩ keptB (Exit.inBlock 1 (Exit.then (Cut ⟨363, [], w⟩ (fun z : (Option Addr × Nat) × (Option Addr × Nat) × (Option Addr × Nat) × (Option Addr × Nat) × (Option Addr × Nat) => [(43, .int .i64 (k : Nat)), (17, .slice z.2.2.2.2.1 s'.evs.length z.2.2.2.2.2), (42, .int .i64 (l.length : Nat)), (41, .slice B0 l.length d0), (1, .bool fast), (2, .slice D0 m e0), (4, .pointer (some ⟨gn, 0, none⟩)), (10, .slice (some ⟨gS, 0, none⟩) n n), (11, .pointer (some ⟨gl, 0, none⟩)), (12, .pointer (some ⟨gw, 0, none⟩)), (13, .pointer (some ⟨gp, 0, none⟩)), (14, .pointer (some ⟨gt, 0, none⟩)), (15, .slice (some ⟨gN, 0, none⟩) m m), (16, .pointer (some ⟨gr, 0, none⟩)), (18, .func (.func 31) #[] #[]), (19, .func (.func 32) #[] #[.pointer (some ⟨gw, 0, none⟩), .pointer (some ⟨gp, 0, none⟩), .pointer (some ⟨gt, 0, none⟩), .pointer (some ⟨gr, 0, none⟩), .pointer (some ⟨gn, 0, none⟩), .pointer (some ⟨gl, 0, none⟩)])]) (fun z => [entBlk gw 58 #[.slice z.1.1 (whoL s').length z.1.2], entOwn natEnc 1 3 z.1.1 z.1.2 (whoL s'), entBlk gp 90 #[.slice z.2.1.1 (putL s').length z.2.1.2], entOwn boolEnc 1 4 z.2.1.1 z.2.1.2 (putL s'), entBlk gt 91 #[.slice z.2.2.1.1 (tagL s').length z.2.2.1.2], entOwn Tg.enc 3 92 z.2.2.1.1 z.2.2.1.2 (tagL s'), entBlk gr 58 #[.slice (some ⟨gR, 0, none⟩) m m], entBlk gn 3 #[.int .i64 (n : Nat)], entOwn natEnc 1 3 (some ⟨gR, 0, none⟩) m (tripL s'), entBlk gl 89 #[.slice z.2.2.2.1.1 s'.ml.length z.2.2.2.1.2], entOwn Ml.enc 6 95 z.2.2.2.1.1 z.2.2.2.1.2 s'.ml, entOwn Si.enc 4 37 (some ⟨gS, 0, none⟩) n s'.at_, entOwn natEnc 1 3 (some ⟨gN, 0, none⟩) m (nextL s'), entOwn Ev.enc 4 34 z.2.2.2.2.1 z.2.2.2.2.2 s'.evs]) (fun _ => True)) Q)) [(43, .int .i64 (k : Nat)), (17, .slice e.1 s.evs.length e.2), (42, .int .i64 (l.length : Nat)), (41, .slice B0 l.length d0), (1, .bool fast), (2, .slice D0 m e0), (4, .pointer (some ⟨gn, 0, none⟩)), (10, .slice (some ⟨gS, 0, none⟩) n n), (11, .pointer (some ⟨gl, 0, none⟩)), (12, .pointer (some ⟨gw, 0, none⟩)), (13, .pointer (some ⟨gp, 0, none⟩)), (14, .pointer (some ⟨gt, 0, none⟩)), (15, .slice (some ⟨gN, 0, none⟩) m m), (16, .pointer (some ⟨gr, 0, none⟩)), (18, .func (.func 31) #[] #[]), (19, .func (.func 32) #[] #[.pointer (some ⟨gw, 0, none⟩), .pointer (some ⟨gp, 0, none⟩), .pointer (some ⟨gt, 0, none⟩), .pointer (some ⟨gr, 0, none⟩), .pointer (some ⟨gn, 0, none⟩), .pointer (some ⟨gl, 0, none⟩)])] [entBlk gw 58 #[.slice a.1 (whoL s).length a.2], entOwn natEnc 1 3 a.1 a.2 (whoL s), entBlk gp 90 #[.slice b.1 (putL s).length b.2], entOwn boolEnc 1 4 b.1 b.2 (putL s), entBlk gt 91 #[.slice c.1 (tagL s).length c.2], entOwn Tg.enc 3 92 c.1 c.2 (tagL s), entBlk gr 58 #[.slice (some ⟨gR, 0, none⟩) m m], entBlk gn 3 #[.int .i64 (n : Nat)], entOwn natEnc 1 3 (some ⟨gR, 0, none⟩) m (tripL s), entBlk gl 89 #[.slice d.1 s.ml.length d.2], entOwn Ml.enc 6 95 d.1 d.2 s.ml, entOwn Si.enc 4 37 (some ⟨gS, 0, none⟩) n s.at_, entOwn natEnc 1 3 (some ⟨gN, 0, none⟩) m (nextL s), entOwn Ev.enc 4 34 e.1 e.2 s.evs] := by
  have hpl : s.pe.length = ps.length := hok.pe
  have hlen := hD.2.1
  have hpm : s.pe.length = m := by omega
  have hlt := hok.lt
  have hle := hok.le
  have hml : s.ml.length ≤ 5000 := by
    rw [hok.lm]
    have : s.tr.length * n ≤ 1000 * 5 := Nat.mul_le_mul (by omega) hn5
    omega
  have hat := hok.at_
  have row : ∀ q (hq : q < hs.length) (hq2 : q < ps.length), hs[q] = ⟨hs[q].a, ps[q].length, hs[q].c⟩ := fun q hq hq2 => by
    rw [← (hD.2.2 q hq hq2).1]
  unfold actV at hs'
  by_cases h1 : l[k].kind = 1
  · rw [if_pos h1] at hs'
    have hq := hx.2.2.1 h1
    have hqm : l[k].a.toNat < ps.length := by omega
    have hqs : l[k].a.toNat < hs.length := by omega
    have er : ps.getD l[k].a.toNat [] = ps[l[k].a.toNat] := by simp [hqm]
    unfold callV at hs'
    by_cases ht : (s.p l[k].a.toNat).trip = 0
    · by_cases hnx : (s.p l[k].a.toNat).next < ps[l[k].a.toNat].length
      · rw [if_pos ⟨ht, by rw [er]; exact hnx⟩, er] at hs'
        rw [show ps[l[k].a.toNat].getD (s.p l[k].a.toNat).next default = ps[l[k].a.toNat][(s.p l[k].a.toNat).next] by simp [hnx]] at hs'
        exact k_call gw gp gt gr gn gl gS gN gR n m k a b c d e fast l B0 D0 d0 e0 s w hk hB (by omega) hml hpm hn5 (by omega) hs ps[l[k].a.toNat] hs[l[k].a.toNat].a hs[l[k].a.toNat].c hD.1 hm (by omega) h1 hq.1 hqs (row _ hqs hqm) (hD.2.2 _ hqs hqm).2.2.2 ht hnx s' hs' Q hQ
      · rw [if_neg (fun h => hnx (by rw [← er]; exact h.2))] at hs'
        exact k_done gw gp gt gr gn gl gS gN gR n m k a b c d e fast l B0 D0 d0 e0 s w hk hB (by omega) hml hpm hn5 (by omega) hs ps[l[k].a.toNat] hs[l[k].a.toNat].a hs[l[k].a.toNat].c hD.1 hm (by omega) h1 hq.1 hqs (row _ hqs hqm) ht (by omega) s' hs' Q hQ
    · rw [if_neg (fun h => ht h.1)] at hs'
      exact k_busy gw gp gt gr gn gl gS gN gR n m k a b c d e fast l B0 D0 d0 e0 s w hk hB (by omega) hml hpm hn5 (by omega) h1 hq.1 (by omega) ht s' hs' Q hQ
  rw [if_neg h1] at hs'
  by_cases h4 : l[k].kind = 4
  · rw [if_pos h4] at hs'
    have hq := hx.2.2.2 h4
    exact k_down gw gp gt gr gn gl gS gN gR n m k a b c d e fast l B0 D0 d0 e0 s w hk hB (by omega) hml hpm hn5 (by omega) h4 hq.1 (by omega) hat s' hs' Q hQ
  rw [if_neg h4] at hs'
  by_cases ho : l[k].a < 0 ∨ (s.ml.length : Int) ≤ l[k].a
  · rw [if_pos ho] at hs'
    exact k_out gw gp gt gr gn gl gS gN gR n m k a b c d e fast l B0 D0 d0 e0 s w hk hB (by omega) hml h1 h4 ho s' hs' Q hQ
  rw [if_neg ho] at hs'
  obtain ⟨q, hq⟩ : ∃ q : Nat, l[k].a = (q : Nat) := ⟨l[k].a.toNat, by omega⟩
  have hil : q < s.ml.length := by omega
  obtain ⟨kd, hkd⟩ : ∃ kd, l[k].kind = kd := ⟨_, rfl⟩
  have hlk : l[k] = ⟨kd, (q : Nat)⟩ := by
    rw [← hkd, ← hq]
  rw [hq, Int.toNat_natCast, hkd] at hs'
  rw [hkd] at h1 h4
  have htl := hok.tripLt hil
  have hsi := hok.siteLt hil
  have eL : s.le q = s.ml[q] := by unfold Sv.le; simp [hil]
  obtain ⟨⟨tr, si, st, ⟨gs, g2, gv⟩⟩, hpi⟩ : ∃ y, s.ml[q] = y := ⟨_, rfl⟩
  rw [hpi] at eL
  rw [eL] at htl hsi
  dsimp only at htl hsi
  by_cases h2 : kd = 2
  · rw [if_pos h2] at hs'
    have hjl : si < s.at_.length := by omega
    have eS : s.si si = s.at_[si] := by unfold Sv.si; simp [hjl]
    obtain ⟨⟨s1, w1, v1, f1⟩, hpj⟩ : ∃ y, s.at_[si] = y := ⟨_, rfl⟩
    rw [hpj] at eS
    by_cases hno : st = 0 ∧ f1 = false
    · obtain ⟨⟨ts, tw, tv⟩, htg⟩ : ∃ y, (s.tp tr).tag = y := ⟨_, rfl⟩
      by_cases hpu : (s.tp tr).put = true ∧ lessT ⟨s1, w1, v1⟩ (s.tp tr).tag = true
      · rw [handV_put eL eS hno hpu, htg] at hs'
        exact k_hand2 gw gp gt gr gn gl gS gN gR n m k a b c d e fast l B0 D0 d0 e0 s w hk hB (by omega) hml hn5 q kd h1 h4 h2 hlk hil tr si st gs g2 gv hpi htl hat hjl s1 w1 v1 f1 hpj hno.1 hno.2 hpu.1 ts tw tv htg (by rw [← htg]; exact hpu.2) s' hs' Q hQ
      · rw [handV_keep eL eS hno hpu] at hs'
        exact k_hand1 gw gp gt gr gn gl gS gN gR n m k a b c d e fast l B0 D0 d0 e0 s w hk hB (by omega) hml hn5 q kd h1 h4 h2 hlk hil tr si st gs g2 gv hpi htl hat hjl s1 w1 v1 f1 hpj hno.1 hno.2 hpu s' hs' Q hQ
    · rw [handV_no eL eS hno] at hs'
      refine k_hand0 gw gp gt gr gn gl gS gN gR n m k a b c d e fast l B0 D0 d0 e0 s w hk hB (by omega) hml hn5 q kd h1 h4 h2 hlk hil tr si st gs g2 gv hpi htl hat hjl s1 w1 v1 f1 hpj ?_ s' hs' Q hQ
      by_cases h0 : st = 0
      · exact .inr (by simpa using fun hf => hno ⟨h0, hf⟩)
      · exact .inl h0
  rw [if_neg h2] at hs'
  unfold backV at hs'
  by_cases hst : st = 1
  case neg =>
    rw [eL, if_pos hst] at hs'
    exact k_back0 gw gp gt gr gn gl gS gN gR n m k a b c d e fast l B0 D0 d0 e0 s w hk hB (by omega) hml hn5 q kd h1 h4 h2 hlk hil tr si st gs g2 gv hpi htl (by omega) hat hsi hst s' hs' Q hQ
  have hmk := mark_ok hok hil (by rw [eL]; exact hst)
  have hM1 : (markV s q).ml = s.ml.set q ⟨tr, si, 2, ⟨gs, g2, gv⟩⟩ := by unfold markV; rw [eL]
  have hMe : markV s q = { s with ml := s.ml.set q ⟨tr, si, 2, ⟨gs, g2, gv⟩⟩ } := by unfold markV; rw [eL]
  rw [eL] at hs'
  dsimp only at hs'
  rw [if_neg (by simp [hst])] at hs'
  obtain ⟨W, hW⟩ : ∃ W, (s.tp tr).who = W := ⟨_, rfl⟩
  have hWm := (hok.tw tr htl).1
  rw [hW] at hs' hWm
  by_cases hR : (s.p W).trip = tr + 1
  case neg =>
    rw [if_pos hR] at hs'
    have htp := (hok.pr W hWm).2
    exact k_stale gw gp gt gr gn gl gS gN gR n m k a b c d e fast l B0 D0 d0 e0 s w hk hB (by omega) hml hn5 q kd h1 h4 h2 hlk hil tr si st gs g2 gv hpi htl (by omega) hat hsi hst W _ hW (by omega) hpm rfl hR (by
      by_cases hz : (s.p W).trip = 0
      · omega
      · have := (htp hz).2.1; omega) s' (by rw [hs', hMe]) Q hQ
  rw [if_neg (by simp [hR])] at hs'
  refine k_back gw gp gt gr gn gl gS gN gR n m k a b c d e fast l B0 D0 d0 e0 s w hk hB (by omega) hml hn5 q kd h1 h4 h2 hlk hil tr si st gs g2 gv hpi htl (by omega) hat hsi hst W hW (by omega) hpm hR (markV s q).ml hM1 s' Q hQ (fun g27 gL gW cW cL => ?_)
  have hMl : (markV s q).ml.length = s.ml.length := by rw [hM1, List.length_set]
  have hcn : (backF (markV s q).ml tr (markV s q).ml.length).1 ≤ 5 := by
    have := hmk.le_trip (T := tr) htl
    rw [this]
    exact Nat.le_trans cntP_n hn5
  have hmo := hmk.cr _ (most_circ hmk tr)
  have hnx := ((hok.pr W hWm).2 (by omega)).1
  have er : ps.getD W [] = ps[W] := by simp [hWm]
  rw [er] at hnx
  have hWs : W < hs.length := by omega
  have hil2 : q < (markV s q).ml.length := by rw [hMl]; exact hil
  have hpi2 : (markV s q).ml[q] = ⟨tr, si, 2, ⟨gs, g2, gv⟩⟩ := (List.getElem_of_eq hM1 hil2).trans (by simp)
  have e3 : (markV s q).tp tr = s.tp tr := rfl
  have hml2 : (markV s q).ml.length ≤ 5000 := by rw [hMl]; exact hml
  have hrow := hD.2.2 W hWs hWm
  by_cases hc : (backF (markV s q).ml tr (markV s q).ml.length).1 ≤ n / 2
  · rw [if_pos hc] at hs'
    exact t_few gw gp gt gr gn gl gS gN gR n m k (some ⟨gW, 0, none⟩, cW) b c (some ⟨gL, 0, none⟩, cL) e fast l B0 D0 d0 e0 (markV s q) w g27 gL q _ W (s.p W).next _ rfl (by show s.evs.length ≤ _; omega) hml2 hn5 hil2 tr si gs g2 gv hpi2 htl (by show s.tr.length ≤ _; omega) hpm hcn (by omega) hs hm ps[W] hs[W].a hs[W].c hD.1 hWs (row _ hWs hWm) hrow.2.2.2 rfl hnx hrow.2.2.1 ⟨hmo.1, by omega⟩ hc s' hs' Q hQ
  rw [if_neg hc] at hs'
  unfold nextV at hs'
  dsimp only at hs'
  have ex : (ps.getD W []).getD ((markV s q).p W).next default = ps[W][(s.p W).next] := by
    rw [er]
    show ps[W].getD (s.p W).next default = _
    simp [hnx]
  rw [ex, e3] at hs'
  have put := fun (tg : Tg) (hkk : (ps[W][(s.p W).next].kind = 1 ∧ tg = ⟨(backF (markV s q).ml tr (markV s q).ml.length).2.s + 1, (W : Nat), ps[W][(s.p W).next].arg⟩) ∨ (¬ ps[W][(s.p W).next].kind = 1 ∧ fast = false ∧ tg = (backF (markV s q).ml tr (markV s q).ml.length).2)) (hs2 : s' = aboutV n (markV s q) W true tg) (hpu : (s.tp tr).put = false) => t_put gw gp gt gr gn gl gS gN gR n m k (some ⟨gW, 0, none⟩, cW) b c (some ⟨gL, 0, none⟩, cL) e fast l B0 D0 d0 e0 (markV s q) w g27 gL q _ W (s.p W).next (backF (markV s q).ml tr (markV s q).ml.length).2 rfl (by show s.evs.length ≤ _; omega) hml2 hn5 hil2 tr si gs g2 gv hpi2 htl (by show s.tr.length ≤ _; omega) hpm hcn (by omega) hs hm ps[W] hs[W].a hs[W].c hD.1 hWs (row _ hWs hWm) hrow.2.2.2 rfl hnx hrow.2.2.1 ⟨hmo.1, by omega⟩ hc hpu tg hkk s' hs2 Q hQ
  obtain ⟨⟨ts, tw, tv⟩, htg⟩ : ∃ y, (s.tp tr).tag = y := ⟨_, rfl⟩
  have resp := fun (hno : (s.tp tr).put = true ∨ (¬ ps[W][(s.p W).next].kind = 1 ∧ fast = true)) (v : Int) (hv : v = if ps[W][(s.p W).next].kind = 1 then 0 else if (s.tp tr).put = true then tv else (backF (markV s q).ml tr (markV s q).ml.length).2.v) (hs2 : s' = { markV s q with evs := (markV s q).evs ++ [⟨(W : Nat), 0, 0, v⟩], pe := (markV s q).pe.set W ⟨(s.p W).next + 1, 0, ((markV s q).p W).rd + 1⟩ }) => t_resp gw gp gt gr gn gl gS gN gR n m k (some ⟨gW, 0, none⟩, cW) b c (some ⟨gL, 0, none⟩, cL) e fast l B0 D0 d0 e0 (markV s q) w g27 gL q _ W (s.p W).next (backF (markV s q).ml tr (markV s q).ml.length).2 rfl (by show s.evs.length ≤ _; omega) hml2 hn5 hil2 tr si gs g2 gv hpi2 htl (by show s.tr.length ≤ _; omega) hpm hcn (by omega) hs hm ps[W] hs[W].a hs[W].c hD.1 hWs (row _ hWs hWm) hrow.2.2.2 rfl hnx hrow.2.2.1 ⟨hmo.1, by omega⟩ hc hno ts tw tv v htg hv (((markV s q).p W).rd + 1) s' hs2 Q hQ
  by_cases hpu : (s.tp tr).put = false
  · by_cases hk1 : ps[W][(s.p W).next].kind = 1
    · rw [if_pos ⟨hpu, hk1⟩] at hs'
      exact put _ (.inl ⟨hk1, rfl⟩) hs' hpu
    · rw [if_neg (fun h => hk1 h.2)] at hs'
      by_cases hf : fast = false
      · rw [if_pos ⟨hpu, hf⟩] at hs'
        exact put _ (.inr ⟨hk1, hf, rfl⟩) hs' hpu
      · rw [if_neg (fun h => hf h.2)] at hs'
        exact resp (.inr ⟨hk1, by simpa using hf⟩) _ (by rw [htg]) hs'
  · rw [if_neg (fun h => hpu h.1), if_neg (fun h => hpu h.1)] at hs'
    exact resp (.inl (by simpa using hpu)) _ (by rw [htg]) hs'
end
end Go.Proofs.Ytaonijdhmgcbjaa
