/- Lemmas for the walks (St2). No condition. -/
import Derived.Test.YtnflkmjfhbfekaaG17
import Derived.Test.YtnflkmjfhbfekaaG05
set_option linter.unusedSimpArgs false
set_option linter.unusedVariables false
set_option linter.unusedSectionVars false
set_option linter.unnecessarySimpa false
namespace Go.Proofs.Ytnflkmjfhbfekaa
open Go.RowKit
set_option linter.unusedSectionVars false

instance : PtrT Try.prog 85 := ⟨by kernel_rfl⟩
instance : PtrZ Try.prog 85 := ⟨⟨_, _, Try.underlying85, Try.sizeOf87, by decide⟩⟩
/-- a process of the machine -/
structure Sq where
  hd : Hd
  pend : Bool
  comp : Bool
  res : Int
  item : Int
  n : Int
  x : Option Addr
  y : Option Addr
  z : Option Addr
  own : Option Addr
def Sq.enc (q : Sq) : List Value := [.slice q.hd.a q.hd.n q.hd.c, .bool q.pend, .bool q.comp, .int .i64 q.res, .int .i64 q.item, .int .i64 q.n, .pointer q.x, .pointer q.y, .pointer q.z, .pointer q.own]
theorem Sq.enc_mk (A : Option Addr) (n c : Nat) (p d : Bool) (r i m : Int) (x y z o : Option Addr) : Sq.enc ⟨⟨A, n, c⟩, p, d, r, i, m, x, y, z, o⟩ = [.slice A n c, .bool p, .bool d, .int .i64 r, .int .i64 i, .int .i64 m, .pointer x, .pointer y, .pointer z, .pointer o] := rfl
section
variable {P : Program} {C : Ctx} {S : List Ent} {α : Type} {enc : α → List Value} {M e g c j off s : Nat} {ls : List α} {x : α} {v : Value}
theorem Lds.qAt [OneCell P s] (hm : entOwn enc M e (some ⟨g, 0, none⟩) c (ls.set j x) ∈ S) (hM : ∀ x, (enc x).length = M) (hj : j < ls.length) (hv : (enc x)[off]? = some v) : Lds P C S s ⟨g, j * M + off, none⟩ v :=
  Lds.own hm hM (by simpa using hj) (by rw [List.getElem_set_self]; exact hv)
end
/-- where the machine lies -/
structure SLc where
  m : Nat
  gP : Nat
  cP : Nat
@[reducible] def machB (a : SLc) (algo : Int) (G : List Nat) (m : Mm) (nP nE : Nat) (x : Option Addr × Nat) : Ent :=
  entBlk a.m 90 #[.int .i64 algo, .int .i64 (m.n : Nat), .pointer (ptr G m.top), .pointer (ptr G m.head), .pointer (ptr G m.tail), .slice (some ⟨a.gP, 0, none⟩) nP a.cP, .slice x.1 nE x.2, .int .i64 (m.anew : Nat)]
def machS (a : SLc) (algo : Int) (G : List Nat) (m : Mm) (pr : List Sq) (nE : Nat) (x : Option Addr × Nat) : List Ent :=
  [machB a algo G m pr.length nE x, entNd 87 G m, entOwn Sq.enc 10 93 (some ⟨a.gP, 0, none⟩) a.cP pr]
section
variable (g c k n0 : Nat) (pr : List Sq) (w : World) (hk : k < pr.length)
include hk
set_option maxRecDepth 100000 in
theorem finish_any (A : Option Addr) (n cc : Nat) (p d : Bool) (r i m v : Int) (x y z o : Option Addr) (hpk : pr[k] = ⟨⟨A, n, cc⟩, p, d, r, i, m, x, y, z, o⟩) (hm : Mem ⟨n0, blks [entOwn Sq.enc 10 93 (some ⟨g, 0, none⟩) c pr], w⟩ w [entOwn Sq.enc 10 93 (some ⟨g, 0, none⟩) c pr]) :
    Calls Try.prog 112 #[.pointer (some ⟨g, k * 10, none⟩), .int .i64 v] w fun e w' => e = .returned (.tuple #[]) ∧ Mem ⟨0, blks [entOwn Sq.enc 10 93 (some ⟨g, 0, none⟩) c pr], w⟩ w' [entOwn Sq.enc 10 93 (some ⟨g, 0, none⟩) c (pr.set k ⟨⟨A, n, cc⟩, p, true, v, i, m, x, y, z, o⟩)] := by
  generalize blks [entOwn Sq.enc 10 93 (some ⟨g, 0, none⟩) c pr] = F at hm ⊢
  have hpk1 : pr[k]? = some ⟨⟨A, n, cc⟩, p, d, r, i, m, x, y, z, o⟩ := by rw [List.getElem?_eq_getElem hk, hpk]
  refine calls_T F Try.func112 rfl Try.ntmps112 (by simp) (hm.anyN _) ?_
  repeat' (first | ((first | with_reducible (first | apply TL_q | apply TD_q0 | apply TD_q1 | apply TD_q2 | apply TD_q3) | ((with_reducible (first | apply TD_q0y | apply TD_q1y)); exact rfl; exact rfl; (with_reducible exact rfl))); (first | ((with_reducible apply QS_load); exact rfl; exact Lds.own (enc := Sq.enc) (by first | ((repeat (first | with_reducible exact List.mem_cons_self | with_reducible apply List.mem_cons_of_mem)); done) | (repeat (first | exact List.Mem.head _ | apply List.Mem.tail))) (fun _ => rfl) hk (by rw [hpk, Sq.enc_mk]; rfl)) | ((with_reducible apply QS_load); exact rfl; exact Lds.own0 (enc := Sq.enc) (by first | ((repeat (first | with_reducible exact List.mem_cons_self | with_reducible apply List.mem_cons_of_mem)); done) | (repeat (first | exact List.Mem.head _ | apply List.Mem.tail))) (fun _ => rfl) hk (by rw [hpk, Sq.enc_mk]; rfl)) | ((with_reducible apply QS_load); exact rfl; exact Lds.qAt (by first | ((repeat (first | with_reducible exact List.mem_cons_self | with_reducible apply List.mem_cons_of_mem)); done) | (repeat (first | exact List.Mem.head _ | apply List.Mem.tail))) (fun _ => rfl) (by first | exact hk | (simp only [List.length_set]; exact hk)) (by rw [Sq.enc_mk]; rfl)) | ((with_reducible apply QS_load); exact rfl; exact Lds.ndVal (by first | ((repeat (first | with_reducible exact List.mem_cons_self | with_reducible apply List.mem_cons_of_mem)); done) | (repeat (first | exact List.Mem.head _ | apply List.Mem.tail))) (by omega)) | ((with_reducible apply QS_load); exact rfl; exact Lds.ndNext (by first | ((repeat (first | with_reducible exact List.mem_cons_self | with_reducible apply List.mem_cons_of_mem)); done) | (repeat (first | exact List.Mem.head _ | apply List.Mem.tail))) (by omega)) | ((with_reducible apply QS_eqlNd (i := 0) (j := 0)); (focus (first | ((repeat (first | with_reducible exact List.mem_cons_self | with_reducible apply List.mem_cons_of_mem)); done) | (repeat (first | exact List.Mem.head _ | apply List.Mem.tail)))); omega; omega; exact rfl; exact rfl) | ((with_reducible apply QS_neqNd (i := 0) (j := 0)); (focus (first | ((repeat (first | with_reducible exact List.mem_cons_self | with_reducible apply List.mem_cons_of_mem)); done) | (repeat (first | exact List.Mem.head _ | apply List.Mem.tail)))); omega; omega; exact rfl; exact rfl) | ((with_reducible apply QS_neqPS); exact rfl; exact rfl) | ((with_reducible apply QS_neqPZ); exact rfl; exact rfl) | ((with_reducible apply QS_eqlPS); exact rfl; exact rfl) | ((with_reducible apply QS_eqlPZ); exact rfl; exact rfl) | exact QS.auto); exact rfl) | ((with_reducible (first | apply TD_e2z | apply TD_e3z | apply TL_e | apply TD_e2 | apply TD_e3)); (first | ((with_reducible apply ES_storeOwn (enc := Sq.enc)); exact rfl; exact rfl; (first | ((repeat (first | with_reducible exact Upd.here _ _ _ | with_reducible apply Upd.there)); done) | (repeat (first | exact Upd.here _ _ _ | apply Upd.there))); exact fun _ => rfl; ((first | exact List.getElem?_set_self (by first | exact hk | (simp only [List.length_set]; exact hk)) | exact hpk1)); decide; exact Sq.enc_mk _ _ _ _ _ _ _ _ _ _ _ _; exact rfl) | ((with_reducible apply ES_storeNx); exact rfl; exact rfl; (first | ((repeat (first | with_reducible exact Upd.here _ _ _ | with_reducible apply Upd.there)); done) | (repeat (first | exact Upd.here _ _ _ | apply Upd.there))); omega; omega) | exact ES.auto); (first | exact rfl | exact ⟨rfl, rfl, rfl⟩); (first | (rintro _ _ ⟨rfl, rfl⟩) | (rintro _ _ ⟨g, rfl, rfl⟩) | (rintro _ _ ⟨A', c', rfl, rfl⟩)); (try refine ⟨SUB, ?_⟩)) | (refine GO ?_) | (refine GOE ?_; (first | (rintro _ _ ⟨rfl, rfl⟩) | (rintro _ _ ⟨g, rfl, rfl⟩) | (rintro _ _ ⟨A', c', rfl, rfl⟩))) | ((refine GO2 ?_ ?_) <;> intro h <;> (try (repeat (first | with_reducible (replace h := of_decide_eq_true h) | with_reducible (replace h := of_decide_eq_false h) | with_reducible (replace h := bnt h) | with_reducible (replace h := bnf h) | with_reducible (replace h := Int.not_lt.mp h) | with_reducible (replace h := Int.not_le.mp h) | with_reducible (replace h := band_dec h) | with_reducible (replace h := band_decF h) | with_reducible (replace h := bor_dec h) | with_reducible (replace h := bor_decF h)))) <;> (try (exfalso; first | contradiction | omega))) | fail)
  (refine At_retN Try.results112 rfl (fun w' hw => ?_))
  have h9 := hw.anyN 0
  simp only [List.set_set] at h9
  exact ⟨rfl, h9⟩
set_option maxRecDepth 100000 in
theorem restart_any (a : SLc) (algo : Int) (G : List Nat) (mm : Mm) (nP nE : Nat) (xE : Option Addr × Nat) (ha : mm.anew ≤ 1000) (A : Option Addr) (n cc : Nat) (p d : Bool) (r i m : Int) (x y z o : Option Addr) (hpk : pr[k] = ⟨⟨A, n, cc⟩, p, d, r, i, m, x, y, z, o⟩)
    (hm : Mem ⟨n0, blks [machB a algo G mm nP nE xE, entOwn Sq.enc 10 93 (some ⟨g, 0, none⟩) c pr], w⟩ w [machB a algo G mm nP nE xE, entOwn Sq.enc 10 93 (some ⟨g, 0, none⟩) c pr]) :
    Calls Try.prog 113 #[.pointer (some ⟨a.m, 0, none⟩), .pointer (some ⟨g, k * 10, none⟩)] w fun e w' => e = .returned (.tuple #[]) ∧ Mem ⟨0, blks [machB a algo G mm nP nE xE, entOwn Sq.enc 10 93 (some ⟨g, 0, none⟩) c pr], w⟩ w' [machB a algo G { mm with anew := mm.anew + 1 } nP nE xE, entOwn Sq.enc 10 93 (some ⟨g, 0, none⟩) c (pr.set k ⟨⟨A, n, cc⟩, p, d, r, 1, m, x, y, z, o⟩)] := by
  generalize blks [machB a algo G mm nP nE xE, entOwn Sq.enc 10 93 (some ⟨g, 0, none⟩) c pr] = F at hm ⊢
  have hpk1 : pr[k]? = some ⟨⟨A, n, cc⟩, p, d, r, i, m, x, y, z, o⟩ := by rw [List.getElem?_eq_getElem hk, hpk]
  refine calls_T F Try.func113 rfl Try.ntmps113 (by simp) (hm.anyN _) ?_
  dsimp only [machB]
  repeat' (first | ((first | with_reducible (first | apply TL_q | apply TD_q0 | apply TD_q1 | apply TD_q2 | apply TD_q3) | ((with_reducible (first | apply TD_q0y | apply TD_q1y)); exact rfl; exact rfl; (with_reducible exact rfl))); (first | ((with_reducible apply QS_load); exact rfl; exact Lds.own (enc := Sq.enc) (by first | ((repeat (first | with_reducible exact List.mem_cons_self | with_reducible apply List.mem_cons_of_mem)); done) | (repeat (first | exact List.Mem.head _ | apply List.Mem.tail))) (fun _ => rfl) hk (by rw [hpk, Sq.enc_mk]; rfl)) | ((with_reducible apply QS_load); exact rfl; exact Lds.own0 (enc := Sq.enc) (by first | ((repeat (first | with_reducible exact List.mem_cons_self | with_reducible apply List.mem_cons_of_mem)); done) | (repeat (first | exact List.Mem.head _ | apply List.Mem.tail))) (fun _ => rfl) hk (by rw [hpk, Sq.enc_mk]; rfl)) | ((with_reducible apply QS_load); exact rfl; exact Lds.qAt (by first | ((repeat (first | with_reducible exact List.mem_cons_self | with_reducible apply List.mem_cons_of_mem)); done) | (repeat (first | exact List.Mem.head _ | apply List.Mem.tail))) (fun _ => rfl) (by first | exact hk | (simp only [List.length_set]; exact hk)) (by rw [Sq.enc_mk]; rfl)) | ((with_reducible apply QS_load); exact rfl; exact Lds.ndVal (by first | ((repeat (first | with_reducible exact List.mem_cons_self | with_reducible apply List.mem_cons_of_mem)); done) | (repeat (first | exact List.Mem.head _ | apply List.Mem.tail))) (by omega)) | ((with_reducible apply QS_load); exact rfl; exact Lds.ndNext (by first | ((repeat (first | with_reducible exact List.mem_cons_self | with_reducible apply List.mem_cons_of_mem)); done) | (repeat (first | exact List.Mem.head _ | apply List.Mem.tail))) (by omega)) | ((with_reducible apply QS_eqlNd (i := 0) (j := 0)); (focus (first | ((repeat (first | with_reducible exact List.mem_cons_self | with_reducible apply List.mem_cons_of_mem)); done) | (repeat (first | exact List.Mem.head _ | apply List.Mem.tail)))); omega; omega; exact rfl; exact rfl) | ((with_reducible apply QS_neqNd (i := 0) (j := 0)); (focus (first | ((repeat (first | with_reducible exact List.mem_cons_self | with_reducible apply List.mem_cons_of_mem)); done) | (repeat (first | exact List.Mem.head _ | apply List.Mem.tail)))); omega; omega; exact rfl; exact rfl) | ((with_reducible apply QS_neqPS); exact rfl; exact rfl) | ((with_reducible apply QS_neqPZ); exact rfl; exact rfl) | ((with_reducible apply QS_eqlPS); exact rfl; exact rfl) | ((with_reducible apply QS_eqlPZ); exact rfl; exact rfl) | exact QS.auto); exact rfl) | ((with_reducible (first | apply TD_e2z | apply TD_e3z | apply TL_e | apply TD_e2 | apply TD_e3)); (first | ((with_reducible apply ES_storeOwn (enc := Sq.enc)); exact rfl; exact rfl; (first | ((repeat (first | with_reducible exact Upd.here _ _ _ | with_reducible apply Upd.there)); done) | (repeat (first | exact Upd.here _ _ _ | apply Upd.there))); exact fun _ => rfl; ((first | exact List.getElem?_set_self (by first | exact hk | (simp only [List.length_set]; exact hk)) | exact hpk1)); decide; exact Sq.enc_mk _ _ _ _ _ _ _ _ _ _ _ _; exact rfl) | ((with_reducible apply ES_storeNx); exact rfl; exact rfl; (first | ((repeat (first | with_reducible exact Upd.here _ _ _ | with_reducible apply Upd.there)); done) | (repeat (first | exact Upd.here _ _ _ | apply Upd.there))); omega; omega) | exact ES.auto); (first | exact rfl | exact ⟨rfl, rfl, rfl⟩); (first | (rintro _ _ ⟨rfl, rfl⟩) | (rintro _ _ ⟨g, rfl, rfl⟩) | (rintro _ _ ⟨A', c', rfl, rfl⟩)); (try refine ⟨SUB, ?_⟩)) | (refine GO ?_) | (refine GOE ?_; (first | (rintro _ _ ⟨rfl, rfl⟩) | (rintro _ _ ⟨g, rfl, rfl⟩) | (rintro _ _ ⟨A', c', rfl, rfl⟩))) | ((refine GO2 ?_ ?_) <;> intro h <;> (try (repeat (first | with_reducible (replace h := of_decide_eq_true h) | with_reducible (replace h := of_decide_eq_false h) | with_reducible (replace h := bnt h) | with_reducible (replace h := bnf h) | with_reducible (replace h := Int.not_lt.mp h) | with_reducible (replace h := Int.not_le.mp h) | with_reducible (replace h := band_dec h) | with_reducible (replace h := band_decF h) | with_reducible (replace h := bor_dec h) | with_reducible (replace h := bor_decF h)))) <;> (try (exfalso; first | contradiction | omega))) | fail)
  (refine At_retN Try.results113 rfl (fun w' hw => ?_))
  have h9 := hw.anyN 0
  rw [show ((mm.anew + 1 : Nat) : Int) = (mm.anew : Int) + 1 by omega]
  exact ⟨rfl, h9⟩
end
end Go.Proofs.Ytnflkmjfhbfekaa
