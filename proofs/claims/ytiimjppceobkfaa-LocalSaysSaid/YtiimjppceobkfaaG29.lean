/- Lemmas for the walks (Loc6, Stq, Law). No condition. -/
import Derived.Test.YtiimjppceobkfaaG28
import Derived.Test.YtiimjppceobkfaaG24
import Derived.Test.YtiimjppceobkfaaG17
import Derived.Test.YtiimjppceobkfaaG16
import Derived.Test.YtiimjppceobkfaaG05
import Derived.Test.YtiimjppceobkfaaG15
import Derived.Test.YtiimjppceobkfaaRows
import Derived.Test.YtiimjppceobkfaaG01
import Derived.ProofKit
import Derived.Deep.Slices
import Derived.Deep.Fields
import Derived.Lib.SmallJoins
import Derived.ChangeSlices
set_option linter.unusedSimpArgs false
set_option linter.unusedVariables false
set_option linter.unusedSectionVars false
set_option linter.unnecessarySimpa false
namespace Go.Proofs.Ytiimjppceobkfaa
open Go.RowKit

def ownK (cs : List Cl) (t : Int) (k : Nat) : List Cl := (cs.take k).filter fun c => decide (c.thing = t)
theorem ownK_succ {cs : List Cl} {t : Int} {k : Nat} (hk : k < cs.length) : ownK cs t (k + 1) = if cs[k].thing = t then ownK cs t k ++ [cs[k]] else ownK cs t k := by
  unfold ownK
  rw [List.take_succ_eq_append_getElem hk, List.filter_append]
  by_cases e : cs[k].thing = t
  · simp [e]
  · simp [e]
theorem ownK_all (cs : List Cl) (t : Int) : ownK cs t cs.length = ownL cs t := by unfold ownK ownL; rw [List.take_length]
theorem ownK_len (cs : List Cl) (t : Int) (k : Nat) : (ownK cs t k).length ≤ k := by
  unfold ownK
  refine Nat.le_trans (List.length_filter_le _ _) ?_
  rw [List.length_take]; omega
def oMap (ts : List Int) (cs : List Cl) (t : Int) : Option (List Stp) := (ownO ts cs t).map fun r => r.map (putC (atL cs t cs.length))
section
variable (A0 A1 : Option Addr) (c0 c1 : Nat) (ts : List Int) (cs : List Cl) (t : Int) (w : World) (hts : ts.length ≤ 9223372036854775807) (hT : RdInt w A0 ts) (hC : RdCl w A1 cs) (h12 : cs.length ≤ 12) (hO : OwnOk ts (ownL cs t))
include hts hT hC h12 hO
set_option maxRecDepth 100000 in
set_option maxHeartbeats 4000000 in
theorem ownOrder_any : Calls Try.prog 58 #[.slice A0 ts.length c0, .slice A1 cs.length c1, .int .i64 t] w fun e w' => ∃ x : Addr × Nat, e = .returned (outV (oMap ts cs t) x) ∧ Mem ⟨0, [], w⟩ w' (outS (oMap ts cs t) x) := by
  refine calls_T (S := []) [] Try.func58 rfl Try.ntmps58 (by simp) (Mem.nil _) ?_
  repeat' (first | ((with_reducible (first | apply TD_e2z | apply TD_e3z | apply TL_e | apply TD_e2 | apply TD_e3)); (first | ((with_reducible apply ES_storeOwn0 (enc := Stp.enc)); exact rfl; exact rfl; (first | ((repeat (first | with_reducible exact Upd.here _ _ _ | with_reducible apply Upd.there)); done) | (repeat (first | exact Upd.here _ _ _ | apply Upd.there))); exact fun _ => rfl; ((first | exact List.getElem?_set_self (by first | assumption | omega) | exact List.getElem?_eq_getElem (by first | assumption | omega | (simp only [List.length_set]; omega)))); decide; exact Stp.enc_mk _ _; exact rfl) | exact ES.auto); (first | exact rfl | exact ⟨rfl, rfl, rfl⟩); (first | (rintro _ _ ⟨rfl, rfl⟩) | (rintro _ _ ⟨g, rfl, rfl⟩) | (rintro _ _ ⟨A', c', rfl, rfl⟩)); (try refine ⟨SUB, ?_⟩)) | (refine GO ?_) | (refine GOE ?_; (first | (rintro _ _ ⟨rfl, rfl⟩) | (rintro _ _ ⟨g, rfl, rfl⟩) | (rintro _ _ ⟨A', c', rfl, rfl⟩))) | ((refine GO2 ?_ ?_) <;> intro h <;> (try (repeat (first | with_reducible (replace h := of_decide_eq_true h) | with_reducible (replace h := of_decide_eq_false h) | with_reducible (replace h := bnt h) | with_reducible (replace h := bnf h) | with_reducible (replace h := Int.not_lt.mp h) | with_reducible (replace h := Int.not_le.mp h) | with_reducible (replace h := band_dec h) | with_reducible (replace h := band_decF h) | with_reducible (replace h := bor_dec h) | with_reducible (replace h := bor_decF h)))) <;> (try (exfalso; first | contradiction | omega))) | fail)
  refine T_loop (X := Nat × (Option Addr × Nat) × Option Addr × Nat) (fun x => [(15, .int .i64 (x.1 : Nat)), (14, .int .i64 cs.length), (13, .slice A1 cs.length c1), (7, .slice x.2.1.1 (ownK cs t x.1).length x.2.1.2), (8, .slice x.2.2.1 (atL cs t x.1).length x.2.2.2), (2, .int .i64 t), (0, .slice A0 ts.length c0)])
    (fun x => [entOwn Cl.enc 7 76 x.2.1.1 x.2.1.2 (ownK cs t x.1), entOwn intEnc 1 3 x.2.2.1 x.2.2.2 (atL cs t x.1)]) (fun x => x.1 ≤ cs.length) (fun x => cs.length - x.1) (0, (none, 0), none, 0) (by (try dsimp only); omega) (by (repeat (first | exact SubE.nil _ | refine SubE.cons rfl ?_)))
    (fun w' hw => by
      show Mem _ w' [entOwn Cl.enc 7 76 none 0 [], entOwn intEnc 1 3 none 0 []]
      exact ((hw.nilOwn intEnc 1 3).nilOwn Cl.enc 7 76).sel (by (repeat (first | exact Sel.nil _ | (apply Sel.cons; (repeat (first | with_reducible exact Pick.here _ _ | with_reducible apply Pick.there))))))) ?_
  rintro ⟨k, ⟨A2, c2⟩, A3, c3⟩ hk
  dsimp only at hk ⊢
  have ho1 := ownK_len cs t k
  have ho2 := atL_len cs t k
  by_cases hkl : k < cs.length
  · obtain ⟨b, o, rfl, _⟩ := RdE.open hC (by omega)
    have hs1 := ownK_succ (t := t) hkl
    have hs2 := atL_succ cs t hkl
    generalize ownK cs t k = L at *
    generalize atL cs t k = M at *
    repeat' (first | ((with_reducible (first | apply TD_e2z | apply TD_e3z | apply TL_e | apply TD_e2 | apply TD_e3)); (first | ((with_reducible apply ES_storeOwn0 (enc := Stp.enc)); exact rfl; exact rfl; (first | ((repeat (first | with_reducible exact Upd.here _ _ _ | with_reducible apply Upd.there)); done) | (repeat (first | exact Upd.here _ _ _ | apply Upd.there))); exact fun _ => rfl; ((first | exact List.getElem?_set_self (by first | assumption | omega) | exact List.getElem?_eq_getElem (by first | assumption | omega | (simp only [List.length_set]; omega)))); decide; exact Stp.enc_mk _ _; exact rfl) | exact ES.auto); (first | exact rfl | exact ⟨rfl, rfl, rfl⟩); (first | (rintro _ _ ⟨rfl, rfl⟩) | (rintro _ _ ⟨g, rfl, rfl⟩) | (rintro _ _ ⟨A', c', rfl, rfl⟩)); (try refine ⟨SUB, ?_⟩)) | (refine GO ?_) | (refine GOE ?_; (first | (rintro _ _ ⟨rfl, rfl⟩) | (rintro _ _ ⟨g, rfl, rfl⟩) | (rintro _ _ ⟨A', c', rfl, rfl⟩))) | ((refine GO2 ?_ ?_) <;> intro h <;> (try (repeat (first | with_reducible (replace h := of_decide_eq_true h) | with_reducible (replace h := of_decide_eq_false h) | with_reducible (replace h := bnt h) | with_reducible (replace h := bnf h) | with_reducible (replace h := Int.not_lt.mp h) | with_reducible (replace h := Int.not_le.mp h) | with_reducible (replace h := band_dec h) | with_reducible (replace h := band_decF h) | with_reducible (replace h := bor_dec h) | with_reducible (replace h := bor_decF h)))) <;> (try (exfalso; first | contradiction | omega))) | ((with_reducible (first | apply TD_e2z | apply TD_e3z | apply TL_e | apply TD_e2 | apply TD_e3)); ((with_reducible apply ES_append1 (enc := Cl.enc) (xx := cs[k])); exact rfl; exact rfl; (repeat (first | with_reducible exact List.mem_cons_self | with_reducible apply List.mem_cons_of_mem)); exact rfl; exact fun _ => rfl; exact fun _ => rfl; (intro Aq cq; first | ((repeat (first | with_reducible exact Upd.here _ _ _ | with_reducible apply Upd.there)); done) | (repeat (first | exact Upd.here _ _ _ | apply Upd.there))); (omega); decide; exact rfl); (first | exact rfl | exact ⟨rfl, rfl, rfl⟩); (rintro _ _ ⟨Ao, co, rfl, rfl⟩); (try refine ⟨SUB, ?_⟩)) | ((with_reducible (first | apply TD_e2z | apply TD_e3z | apply TL_e | apply TD_e2 | apply TD_e3)); ((with_reducible apply ES_append1 (enc := intEnc) (xx := (k : Int))); exact rfl; exact rfl; (repeat (first | with_reducible exact List.mem_cons_self | with_reducible apply List.mem_cons_of_mem)); exact rfl; exact fun _ => rfl; exact fun _ => rfl; (intro Aq cq; first | ((repeat (first | with_reducible exact Upd.here _ _ _ | with_reducible apply Upd.there)); done) | (repeat (first | exact Upd.here _ _ _ | apply Upd.there))); (omega); decide; exact rfl); (first | exact rfl | exact ⟨rfl, rfl, rfl⟩); (rintro _ _ ⟨Aa, ca, rfl, rfl⟩); (try refine ⟨SUB, ?_⟩)) | fail)
    · apply At_rounds (k + 1, (Ao, co), Aa, ca)
      case hE => dsimp only; rw [hs1, hs2, if_pos (by assumption), if_pos (by assumption)]; (repeat (first | exact SubE.nil _ | refine SubE.cons rfl ?_))
      case hS => dsimp only; rw [hs1, hs2, if_pos (by assumption), if_pos (by assumption)]; exact fun w' hw => hw.sel (by (repeat (first | exact Sel.nil _ | (apply Sel.cons; (repeat (first | with_reducible exact Pick.here _ _ | with_reducible apply Pick.there))))))
      case hμ => (try dsimp only); omega
      case hp => (try dsimp only); omega
    · apply At_rounds (k + 1, (A2, c2), A3, c3)
      case hE => dsimp only; rw [hs1, hs2, if_neg (by assumption), if_neg (by assumption)]; (repeat (first | exact SubE.nil _ | refine SubE.cons rfl ?_))
      case hS => dsimp only; rw [hs1, hs2, if_neg (by assumption), if_neg (by assumption)]; exact fun w' hw => hw.sel (by (repeat (first | exact Sel.nil _ | (apply Sel.cons; (repeat (first | with_reducible exact Pick.here _ _ | with_reducible apply Pick.there))))))
      case hμ => (try dsimp only); omega
      case hp => (try dsimp only); omega
  · obtain rfl : k = cs.length := by omega
    rw [ownK_all]
    have hop := fun r (hr : ownO ts cs t = some r) => ownO_path hO hr
    have hol := ownL_len cs t
    have hcr := fun A c w' h => callRel_any A c (ownL cs t) w' h (by have := hO.few; omega)
    have hlo := fun A c => least_all A0 A c0 c ts (ownL cs t) (ownL cs t).length (relAhead (ownL cs t)) hO.types hO.calls hO.few hO.rel (ownL cs t).length []
    have hgood := good_nil (cs := ownL cs t) (f := relAhead (ownL cs t)) hO.types
    have htp := hO.types
    have hmall := fun r => mapK_all (atL cs t cs.length) r
    have hdef : oMap ts cs t = (ownO ts cs t).map fun r => r.map (putC (atL cs t cs.length)) := rfl
    rw [hdef]
    unfold ownO at *
    generalize ownL cs t = own at *
    generalize atL cs t cs.length = at_ at *
    clear hO hdef
    generalize srchR ts own (relAhead own) own.length [] = o at *
    repeat' (first | ((with_reducible (first | apply TD_e2z | apply TD_e3z | apply TL_e | apply TD_e2 | apply TD_e3)); (first | ((with_reducible apply ES_storeOwn0 (enc := Stp.enc)); exact rfl; exact rfl; (first | ((repeat (first | with_reducible exact Upd.here _ _ _ | with_reducible apply Upd.there)); done) | (repeat (first | exact Upd.here _ _ _ | apply Upd.there))); exact fun _ => rfl; ((first | exact List.getElem?_set_self (by first | assumption | omega) | exact List.getElem?_eq_getElem (by first | assumption | omega | (simp only [List.length_set]; omega)))); decide; exact Stp.enc_mk _ _; exact rfl) | exact ES.auto); (first | exact rfl | exact ⟨rfl, rfl, rfl⟩); (first | (rintro _ _ ⟨rfl, rfl⟩) | (rintro _ _ ⟨g, rfl, rfl⟩) | (rintro _ _ ⟨A', c', rfl, rfl⟩)); (try refine ⟨SUB, ?_⟩)) | (refine GO ?_) | (refine GOE ?_; (first | (rintro _ _ ⟨rfl, rfl⟩) | (rintro _ _ ⟨g, rfl, rfl⟩) | (rintro _ _ ⟨A', c', rfl, rfl⟩))) | ((refine GO2 ?_ ?_) <;> intro h <;> (try (repeat (first | with_reducible (replace h := of_decide_eq_true h) | with_reducible (replace h := of_decide_eq_false h) | with_reducible (replace h := bnt h) | with_reducible (replace h := bnf h) | with_reducible (replace h := Int.not_lt.mp h) | with_reducible (replace h := Int.not_le.mp h) | with_reducible (replace h := band_dec h) | with_reducible (replace h := band_decF h) | with_reducible (replace h := bor_dec h) | with_reducible (replace h := bor_decF h)))) <;> (try (exfalso; first | contradiction | omega))) | ((with_reducible (first | apply TD_e2z | apply TD_e3z | apply TL_e | apply TD_e2 | apply TD_e3)); ((with_reducible apply ES_callV (f := 32)); exact rfl; (intro w hw; exact hcr _ _ w (hw.ownRd (by first | ((repeat (first | with_reducible exact List.mem_cons_self | with_reducible apply List.mem_cons_of_mem)); done) | (repeat (first | exact List.Mem.head _ | apply List.Mem.tail))) (fun _ => rfl))); exact rfl); (first | exact rfl | exact ⟨rfl, rfl, rfl⟩); (rintro _ _ ⟨rfl, rfl⟩); (try refine ⟨SUB, ?_⟩)) | ((with_reducible (first | apply TD_e2z | apply TD_e3z | apply TL_e | apply TD_e2 | apply TD_e3)); ((with_reducible apply ES_buildSlice0 Stp.enc); exact rfl); (first | exact rfl | exact ⟨rfl, rfl, rfl⟩); (rintro _ _ ⟨g, rfl, rfl⟩); (try refine ⟨SUB, ?_⟩)) | fail)
    obtain ⟨gN, rfl⟩ : ∃ x, x = g := ⟨_, rfl⟩
    have hih := fun (C : Ctx) (R' : List Ent) (w' : World) (hw : Mem C w' ([entOwn Stp.enc 2 72 (some ⟨gN, 0, none⟩) 0 []] ++ R')) (h1 : RdInt w' A0 ts) (h2 : RdCl w' A2 own) (h3 : Away A0 (blks [entOwn Stp.enc 2 72 (some ⟨gN, 0, none⟩) 0 []])) (h4 : 0 < own.length → Away A2 (blks [entOwn Stp.enc 2 72 (some ⟨gN, 0, none⟩) 0 []])) =>
      hlo A2 c2 (some ⟨gN, 0, none⟩) 0 w' 0 hgood (by simp [maskW, unset_0]) h1 h2 (fun e => by cases e) h3 h4 (hw.self 0)
    have hawT : ∀ (C : Ctx) (R' : List Ent) (w' : World), C.F = [] → C.w0 = w → Mem C w' ([entOwn Stp.enc 2 72 (some ⟨gN, 0, none⟩) 0 []] ++ R') → Away A0 (blks [entOwn Stp.enc 2 72 (some ⟨gN, 0, none⟩) 0 []]) := fun C R' w' e1 e2 hw b o e => by
      subst e2
      have ht1 : 1 ≤ ts.length := by have := htp; unfold typesOk at this; rw [Bool.and_eq_true, decide_eq_true_eq] at this; exact this.1.1
      obtain ⟨b', o', e', hb'⟩ := RdE.open hT (by omega)
      rw [e] at e'; cases e'
      exact hw.newBlk e1 hb'
    have hawB : ∀ (C : Ctx) (R' : List Ent) (w' : World), Mem C w' ([entOwn Stp.enc 2 72 (some ⟨gN, 0, none⟩) 0 []] ++ R') → entOwn Cl.enc 7 76 A2 c2 own ∈ R' → Away A2 (blks [entOwn Stp.enc 2 72 (some ⟨gN, 0, none⟩) 0 []]) := fun C R' w' hw hm b o e hb => by
      obtain ⟨e1, he1, hg⟩ := mem_blks.1 hb
      refine (List.pairwise_append.1 hw.apart).2.2 e1 he1 _ hm b hg ?_
      show (Value.slice A2 own.length c2).ownBlock = some b
      rw [e]; rfl
    cases o with
    | some r =>
      obtain ⟨hr1, hr2⟩ := hop r rfl
      have hmall := hmall r
      repeat' (first | ((with_reducible (first | apply TD_e2z | apply TD_e3z | apply TL_e | apply TD_e2 | apply TD_e3)); (first | ((with_reducible apply ES_storeOwn0 (enc := Stp.enc)); exact rfl; exact rfl; (first | ((repeat (first | with_reducible exact Upd.here _ _ _ | with_reducible apply Upd.there)); done) | (repeat (first | exact Upd.here _ _ _ | apply Upd.there))); exact fun _ => rfl; ((first | exact List.getElem?_set_self (by first | assumption | omega) | exact List.getElem?_eq_getElem (by first | assumption | omega | (simp only [List.length_set]; omega)))); decide; exact Stp.enc_mk _ _; exact rfl) | exact ES.auto); (first | exact rfl | exact ⟨rfl, rfl, rfl⟩); (first | (rintro _ _ ⟨rfl, rfl⟩) | (rintro _ _ ⟨g, rfl, rfl⟩) | (rintro _ _ ⟨A', c', rfl, rfl⟩)); (try refine ⟨SUB, ?_⟩)) | (refine GO ?_) | (refine GOE ?_; (first | (rintro _ _ ⟨rfl, rfl⟩) | (rintro _ _ ⟨g, rfl, rfl⟩) | (rintro _ _ ⟨A', c', rfl, rfl⟩))) | ((refine GO2 ?_ ?_) <;> intro h <;> (try (repeat (first | with_reducible (replace h := of_decide_eq_true h) | with_reducible (replace h := of_decide_eq_false h) | with_reducible (replace h := bnt h) | with_reducible (replace h := bnf h) | with_reducible (replace h := Int.not_lt.mp h) | with_reducible (replace h := Int.not_le.mp h) | with_reducible (replace h := band_dec h) | with_reducible (replace h := band_decF h) | with_reducible (replace h := bor_dec h) | with_reducible (replace h := bor_decF h)))) <;> (try (exfalso; first | contradiction | omega))) | ((with_reducible (first | apply TD_e2z | apply TD_e3z | apply TL_e | apply TD_e2 | apply TD_e3)); ((with_reducible apply ES_callX (f := 46) (X := Addr × Nat) (S1 := [entOwn Stp.enc 2 72 (some ⟨gN, 0, none⟩) 0 []]) (outV (some r)) (outS (some r))); exact rfl; ((repeat (first | exact Pull.nil _ | (apply Pull.cons; (repeat (first | with_reducible exact Pick.here _ _ | with_reducible apply Pick.there)))))); (intro x; dsimp only [outS]; repeat (first | exact AppL.nil _ | apply AppL.cons)); (intro w' hw; exact hih _ _ w' hw (hw.rd rfl hT) (hw.ownRd (et := 76) (c := c2) (by first | ((repeat (first | with_reducible exact List.mem_cons_self | with_reducible apply List.mem_cons_of_mem)); done) | (repeat (first | exact List.Mem.head _ | apply List.Mem.tail))) (fun _ => rfl)) (hawT _ _ w' rfl rfl hw) (fun _ => hawB _ _ w' hw (by first | ((repeat (first | with_reducible exact List.mem_cons_self | with_reducible apply List.mem_cons_of_mem)); done) | (repeat (first | exact List.Mem.head _ | apply List.Mem.tail))))); exact rfl); (first | exact rfl | exact ⟨rfl, rfl, rfl⟩); (rintro _ _ ⟨⟨a9, c9⟩, rfl, rfl⟩); (try refine ⟨SUB, ?_⟩)) | fail)
      refine T_loop (X := Nat) (fun i => [(41, .int .i64 (i : Nat)), (40, .int .i64 r.length), (11, .slice (some a9) r.length c9), (8, .slice A3 at_.length c3)])
        (fun i => [entOwn Stp.enc 2 72 (some a9) c9 (mapK at_ r i), entOwn intEnc 1 3 A3 c3 at_]) (fun i => i ≤ r.length) (fun i => r.length - i) 0 (by omega) (by (repeat (first | exact SubE.nil _ | refine SubE.cons rfl ?_))) (fun w hw => by rw [mapK_0]; exact hw.sel (by (repeat (first | exact Sel.nil _ | (apply Sel.cons; (repeat (first | with_reducible exact Pick.here _ _ | with_reducible apply Pick.there))))))) ?_
      intro i hi
      have hml := mapK_len at_ r i
      by_cases hil : i < r.length
      · have hma := mapK_at (at_ := at_) hil (by omega)
        have hms := mapK_set (at_ := at_) hil
        obtain ⟨hc0, hc1⟩ := hr2 r[i] (List.getElem_mem _)
        rw [hol] at hc1
        have hput : putC at_ r[i] = ⟨at_[r[i].call.toNat], r[i].res⟩ := by simp [putC, hc1]
        rw [hput] at hms
        have hms2 : ∀ x, x = r[i] → ∀ h : x.call.toNat < at_.length, (mapK at_ r i).set i ⟨at_[x.call.toNat], x.res⟩ = mapK at_ r (i + 1) := by
          rintro x rfl h
          exact hms
        have hms3 := hms2 _ hma
        rw [← hma] at hc0 hc1
        have hms4 := hms3 hc1
        clear hms hms2 hms3 hput
        refine T_own (enc := Stp.enc) (ls := mapK at_ r i) (by first | ((repeat (first | with_reducible exact List.mem_cons_self | with_reducible apply List.mem_cons_of_mem)); done) | (repeat (first | exact List.Mem.head _ | apply List.Mem.tail))) (by omega) ?_
        intro gA hgA
        cases hgA
        refine T_own (enc := intEnc) (ls := at_) (by first | ((repeat (first | with_reducible exact List.mem_cons_self | with_reducible apply List.mem_cons_of_mem)); done) | (repeat (first | exact List.Mem.head _ | apply List.Mem.tail))) (by omega) ?_
        rintro gR rfl
        repeat' (first | ((with_reducible (first | apply TD_e2z | apply TD_e3z | apply TL_e | apply TD_e2 | apply TD_e3)); (first | ((with_reducible apply ES_storeOwn0 (enc := Stp.enc)); exact rfl; exact rfl; (first | ((repeat (first | with_reducible exact Upd.here _ _ _ | with_reducible apply Upd.there)); done) | (repeat (first | exact Upd.here _ _ _ | apply Upd.there))); exact fun _ => rfl; ((first | exact List.getElem?_set_self (by first | assumption | omega) | exact List.getElem?_eq_getElem (by first | assumption | omega | (simp only [List.length_set]; omega)))); decide; exact Stp.enc_mk _ _; exact rfl) | exact ES.auto); (first | exact rfl | exact ⟨rfl, rfl, rfl⟩); (first | (rintro _ _ ⟨rfl, rfl⟩) | (rintro _ _ ⟨g, rfl, rfl⟩) | (rintro _ _ ⟨A', c', rfl, rfl⟩)); (try refine ⟨SUB, ?_⟩)) | (refine GG ?_) | (refine GE ?_; (first | (rintro _ _ ⟨rfl, rfl⟩) | (rintro _ _ ⟨g, rfl, rfl⟩) | (rintro _ _ ⟨A', c', rfl, rfl⟩)); (try refine ⟨SUB, ?_⟩)) | ((refine GO2 ?_ ?_) <;> intro h <;> (try (repeat (first | with_reducible (replace h := of_decide_eq_true h) | with_reducible (replace h := of_decide_eq_false h) | with_reducible (replace h := bnt h) | with_reducible (replace h := bnf h) | with_reducible (replace h := Int.not_lt.mp h) | with_reducible (replace h := Int.not_le.mp h) | with_reducible (replace h := band_dec h) | with_reducible (replace h := band_decF h) | with_reducible (replace h := bor_dec h) | with_reducible (replace h := bor_decF h)))) <;> (try (exfalso; first | contradiction | omega))) | (refine GOF ?_ ?_) | fail | fail)
        all_goals
          refine At_rounds (i + 1) hil (by omega) (by (repeat (first | exact SubE.nil _ | refine SubE.cons rfl ?_))) (fun w hw => ?_)
          rw [← hms4]
          exact hw
      · obtain rfl : i = r.length := by omega
        rw [hmall]
        repeat' (first | ((with_reducible (first | apply TD_e2z | apply TD_e3z | apply TL_e | apply TD_e2 | apply TD_e3)); (first | ((with_reducible apply ES_storeOwn0 (enc := Stp.enc)); exact rfl; exact rfl; (first | ((repeat (first | with_reducible exact Upd.here _ _ _ | with_reducible apply Upd.there)); done) | (repeat (first | exact Upd.here _ _ _ | apply Upd.there))); exact fun _ => rfl; ((first | exact List.getElem?_set_self (by first | assumption | omega) | exact List.getElem?_eq_getElem (by first | assumption | omega | (simp only [List.length_set]; omega)))); decide; exact Stp.enc_mk _ _; exact rfl) | exact ES.auto); (first | exact rfl | exact ⟨rfl, rfl, rfl⟩); (first | (rintro _ _ ⟨rfl, rfl⟩) | (rintro _ _ ⟨g, rfl, rfl⟩) | (rintro _ _ ⟨A', c', rfl, rfl⟩)); (try refine ⟨SUB, ?_⟩)) | (refine GO ?_) | (refine GOE ?_; (first | (rintro _ _ ⟨rfl, rfl⟩) | (rintro _ _ ⟨g, rfl, rfl⟩) | (rintro _ _ ⟨A', c', rfl, rfl⟩))) | ((refine GO2 ?_ ?_) <;> intro h <;> (try (repeat (first | with_reducible (replace h := of_decide_eq_true h) | with_reducible (replace h := of_decide_eq_false h) | with_reducible (replace h := bnt h) | with_reducible (replace h := bnf h) | with_reducible (replace h := Int.not_lt.mp h) | with_reducible (replace h := Int.not_le.mp h) | with_reducible (replace h := band_dec h) | with_reducible (replace h := band_decF h) | with_reducible (replace h := bor_dec h) | with_reducible (replace h := bor_decF h)))) <;> (try (exfalso; first | contradiction | omega))) | fail)
        (refine At_ret Try.results58 rfl (fun w' hw => ?_))
        refine ⟨(a9, c9), ?_, ?_⟩
        · simp [resVal, outV]
        · exact (hw.sub (by show List.Sublist [_] _; first | ((repeat (first | with_reducible exact List.nil_sublist _ | with_reducible exact List.Sublist.refl _ | with_reducible apply List.Sublist.cons_cons | with_reducible apply List.Sublist.cons)); done) | (repeat (first | exact List.nil_sublist _ | exact List.Sublist.refl _ | apply List.Sublist.cons_cons | apply List.Sublist.cons)))).anyN 0
    | none =>
      repeat' (first | ((with_reducible (first | apply TD_e2z | apply TD_e3z | apply TL_e | apply TD_e2 | apply TD_e3)); (first | ((with_reducible apply ES_storeOwn0 (enc := Stp.enc)); exact rfl; exact rfl; (first | ((repeat (first | with_reducible exact Upd.here _ _ _ | with_reducible apply Upd.there)); done) | (repeat (first | exact Upd.here _ _ _ | apply Upd.there))); exact fun _ => rfl; ((first | exact List.getElem?_set_self (by first | assumption | omega) | exact List.getElem?_eq_getElem (by first | assumption | omega | (simp only [List.length_set]; omega)))); decide; exact Stp.enc_mk _ _; exact rfl) | exact ES.auto); (first | exact rfl | exact ⟨rfl, rfl, rfl⟩); (first | (rintro _ _ ⟨rfl, rfl⟩) | (rintro _ _ ⟨g, rfl, rfl⟩) | (rintro _ _ ⟨A', c', rfl, rfl⟩)); (try refine ⟨SUB, ?_⟩)) | (refine GO ?_) | (refine GOE ?_; (first | (rintro _ _ ⟨rfl, rfl⟩) | (rintro _ _ ⟨g, rfl, rfl⟩) | (rintro _ _ ⟨A', c', rfl, rfl⟩))) | ((refine GO2 ?_ ?_) <;> intro h <;> (try (repeat (first | with_reducible (replace h := of_decide_eq_true h) | with_reducible (replace h := of_decide_eq_false h) | with_reducible (replace h := bnt h) | with_reducible (replace h := bnf h) | with_reducible (replace h := Int.not_lt.mp h) | with_reducible (replace h := Int.not_le.mp h) | with_reducible (replace h := band_dec h) | with_reducible (replace h := band_decF h) | with_reducible (replace h := bor_dec h) | with_reducible (replace h := bor_decF h)))) <;> (try (exfalso; first | contradiction | omega))) | ((with_reducible (first | apply TD_e2z | apply TD_e3z | apply TL_e | apply TD_e2 | apply TD_e3)); ((with_reducible apply ES_callX (f := 46) (X := Addr × Nat) (S1 := [entOwn Stp.enc 2 72 (some ⟨gN, 0, none⟩) 0 []]) (outV none) (outS none)); exact rfl; ((repeat (first | exact Pull.nil _ | (apply Pull.cons; (repeat (first | with_reducible exact Pick.here _ _ | with_reducible apply Pick.there)))))); (intro x; dsimp only [outS]; repeat (first | exact AppL.nil _ | apply AppL.cons)); (intro w' hw; exact hih _ _ w' hw (hw.rd rfl hT) (hw.ownRd (et := 76) (c := c2) (by first | ((repeat (first | with_reducible exact List.mem_cons_self | with_reducible apply List.mem_cons_of_mem)); done) | (repeat (first | exact List.Mem.head _ | apply List.Mem.tail))) (fun _ => rfl)) (hawT _ _ w' rfl rfl hw) (fun _ => hawB _ _ w' hw (by first | ((repeat (first | with_reducible exact List.mem_cons_self | with_reducible apply List.mem_cons_of_mem)); done) | (repeat (first | exact List.Mem.head _ | apply List.Mem.tail))))); exact rfl); (first | exact rfl | exact ⟨rfl, rfl, rfl⟩); (rintro _ _ ⟨⟨a9, c9⟩, rfl, rfl⟩); (try refine ⟨SUB, ?_⟩)) | fail)
      refine T_loop (X := Unit) (fun _ => [(41, .int .i64 0), (40, .int .i64 0), (11, .slice none 0 0)]) (fun _ => []) (fun _ => True) (fun _ => 0) () trivial (by (repeat (first | exact SubE.nil _ | refine SubE.cons rfl ?_))) (fun w hw => hw.sel (by (repeat (first | exact Sel.nil _ | (apply Sel.cons; (repeat (first | with_reducible exact Pick.here _ _ | with_reducible apply Pick.there))))))) ?_
      rintro - -
      repeat' (first | ((with_reducible (first | apply TD_e2z | apply TD_e3z | apply TL_e | apply TD_e2 | apply TD_e3)); (first | ((with_reducible apply ES_storeOwn0 (enc := Stp.enc)); exact rfl; exact rfl; (first | ((repeat (first | with_reducible exact Upd.here _ _ _ | with_reducible apply Upd.there)); done) | (repeat (first | exact Upd.here _ _ _ | apply Upd.there))); exact fun _ => rfl; ((first | exact List.getElem?_set_self (by first | assumption | omega) | exact List.getElem?_eq_getElem (by first | assumption | omega | (simp only [List.length_set]; omega)))); decide; exact Stp.enc_mk _ _; exact rfl) | exact ES.auto); (first | exact rfl | exact ⟨rfl, rfl, rfl⟩); (first | (rintro _ _ ⟨rfl, rfl⟩) | (rintro _ _ ⟨g, rfl, rfl⟩) | (rintro _ _ ⟨A', c', rfl, rfl⟩)); (try refine ⟨SUB, ?_⟩)) | (refine GO ?_) | (refine GOE ?_; (first | (rintro _ _ ⟨rfl, rfl⟩) | (rintro _ _ ⟨g, rfl, rfl⟩) | (rintro _ _ ⟨A', c', rfl, rfl⟩))) | ((refine GO2 ?_ ?_) <;> intro h <;> (try (repeat (first | with_reducible (replace h := of_decide_eq_true h) | with_reducible (replace h := of_decide_eq_false h) | with_reducible (replace h := bnt h) | with_reducible (replace h := bnf h) | with_reducible (replace h := Int.not_lt.mp h) | with_reducible (replace h := Int.not_le.mp h) | with_reducible (replace h := band_dec h) | with_reducible (replace h := band_decF h) | with_reducible (replace h := bor_dec h) | with_reducible (replace h := bor_decF h)))) <;> (try (exfalso; first | contradiction | omega))) | fail)
      (refine At_ret Try.results58 rfl (fun w' hw => ?_))
      exact ⟨(⟨0, 0, none⟩, 0), rfl, hw.anyN 0⟩
end
end Go.Proofs.Ytiimjppceobkfaa

namespace Go.Proofs.Ytiimjppceobkfaa
open Go.RowKit

def stpEqB (x y : Stp) : Bool := decide (x.call = y.call) && (decide (x.res = y.res))
theorem stpEqB_eq (x y : Stp) : stpEqB x y = true ↔ x = y := by
  cases x; cases y
  simp [stpEqB]
theorem stpCells (v : Stp) : Stp.enc v = [.int .i64 v.call, .int .i64 v.res] := rfl
set_option maxRecDepth 40000 in
theorem run_neq_stp (x y : Stp) (w : World) : (binOp .neq 72 (.agg (Stp.enc x).toArray) (.agg (Stp.enc y).toArray)).run Try.prog w = .ok (.bool (!stpEqB x y)) w := by
  obtain ⟨x1, x2⟩ := x
  obtain ⟨y1, y2⟩ := y
  rw [stpCells, stpCells, run_neq_struct]
  go_simp
  unfold stpEqB
  repeat' split
  all_goals simp_all
theorem run_eqGuard_stp (op : BinOp) (x y : Operand) (xs ys : Array Value) (w : World) : (eqGuard op 72 x y (.agg xs) (.agg ys)).run Try.prog w = .ok () w :=
  run_eqGuard_agg w op _ x y xs ys Try.eqGuardType72
section
variable {C : Ctx} {E : Slots} {S : List Ent} {ty ty3 : Nat} {x y : Operand} (u v : Stp)
theorem QS_neqStp (hx : evo E x = some (.agg (Stp.enc u).toArray)) (hy : evo E y = some (.agg (Stp.enc v).toArray)) : QS Try.prog C E S (.binOp .neq 72 x y ty3) ty (.bool (!stpEqB u v)) :=
  QS.of (fun a w ha _ => by
    have h2 := run_neq_stp u v w
    have hg := run_eqGuard_stp .neq x y (Stp.enc u).toArray (Stp.enc v).toArray w
    simp only [execOp, ha.evo hx, ha.evo hy, Sem.run_bind, hg, Result.andThen_ok, h2]
    simp)
end
set_option maxRecDepth 100000 in
set_option maxHeartbeats 2000000 in
theorem equalStp_any (A B : Option Addr) (c d : Nat) (l m : List Stp) (w : World) (hl : l.length ≤ 9223372036854775807) (hm : m.length ≤ 9223372036854775807) (hA : RdE Stp.enc 2 w A l) (hB : RdE Stp.enc 2 w B m) :
    Calls Try.prog 35 #[.slice A l.length c, .slice B m.length d] w fun e w' => e = .returned (.bool (decide (l = m))) ∧ Below w.heap.size w w' := by
  refine calls_T (S := []) [] Try.func35 rfl Try.ntmps35 (by simp) (Mem.nil _) ?_
  repeat' (first | ((first | with_reducible (first | apply TL_q | apply TD_q0 | apply TD_q1 | apply TD_q2 | apply TD_q3) | ((with_reducible (first | apply TD_q0y | apply TD_q1y)); exact rfl; exact rfl; (with_reducible exact rfl))); (first | exact QS.auto | ((with_reducible apply QS_neqStp); exact rfl; exact rfl)); exact rfl) | (refine GO ?_) | (refine GOE ?_; (first | (rintro _ _ ⟨rfl, rfl⟩) | (rintro _ _ ⟨g, rfl, rfl⟩) | (rintro _ _ ⟨A', c', rfl, rfl⟩))) | ((refine GO2 ?_ ?_) <;> intro h <;> (try (repeat (first | with_reducible (replace h := of_decide_eq_true h) | with_reducible (replace h := of_decide_eq_false h) | with_reducible (replace h := bnt h) | with_reducible (replace h := bnf h) | with_reducible (replace h := Int.not_lt.mp h) | with_reducible (replace h := Int.not_le.mp h) | with_reducible (replace h := band_dec h) | with_reducible (replace h := band_decF h) | with_reducible (replace h := bor_dec h) | with_reducible (replace h := bor_decF h)))) <;> (try (exfalso; first | contradiction | omega))) | fail)
  · (refine At_ret Try.results35 rfl (fun w' hw => ?_))
    rw [decide_eq_false (fun e => by subst e; omega)]
    exact ⟨rfl, hw.below0 rfl⟩
  have hlen : l.length = m.length := by omega
  refine T_loop (X := Nat) (fun k => [(13, .int .i64 (k : Nat)), (12, .int .i64 l.length), (1, .slice B m.length d), (0, .slice A l.length c)])
    (fun _ => []) (fun k => k ≤ l.length ∧ Hid (∀ j, j < k → l[j]? = m[j]?)) (fun k => l.length - k) 0 ⟨by omega, Lib.hid (by omega)⟩ (by (repeat (first | exact SubE.nil _ | refine SubE.cons rfl ?_))) (by exact SUBS) ?_
  rintro k ⟨hk, hall⟩
  by_cases hlt : k < l.length
  · obtain ⟨b, o, rfl, hb0⟩ := RdE.open hA (by omega)
    obtain ⟨b2, o2, rfl, hb2⟩ := RdE.open hB (by omega)
    have hlt2 : k < m.length := by omega
    have hev := stpEqB_eq l[k] m[k]
    repeat' (first | ((first | with_reducible (first | apply TL_q | apply TD_q0 | apply TD_q1 | apply TD_q2 | apply TD_q3) | ((with_reducible (first | apply TD_q0y | apply TD_q1y)); exact rfl; exact rfl; (with_reducible exact rfl))); (first | exact QS.auto | ((with_reducible apply QS_neqStp); exact rfl; exact rfl)); exact rfl) | (refine GG ?_) | (refine GE ?_; (first | (rintro _ _ ⟨rfl, rfl⟩) | (rintro _ _ ⟨g, rfl, rfl⟩) | (rintro _ _ ⟨A', c', rfl, rfl⟩)); (try refine ⟨SUB, ?_⟩)) | ((refine GO2 ?_ ?_) <;> intro h <;> (try (repeat (first | with_reducible (replace h := of_decide_eq_true h) | with_reducible (replace h := of_decide_eq_false h) | with_reducible (replace h := bnt h) | with_reducible (replace h := bnf h) | with_reducible (replace h := Int.not_lt.mp h) | with_reducible (replace h := Int.not_le.mp h) | with_reducible (replace h := band_dec h) | with_reducible (replace h := band_decF h) | with_reducible (replace h := bor_dec h) | with_reducible (replace h := bor_decF h)))) <;> (try (exfalso; first | contradiction | omega))) | (refine GOF ?_ ?_) | ((with_reducible apply T_draw (id := 6) 1000 (OT.seq [(0, 0), (0, 1), (0, 2), (0, 4), (0, 5), (0, 6), (1, 3), (1, 7), (0, 8)] .nil)); kernel_rfl; exact rfl; kernel_rfl; (repeat (first | with_reducible exact Blind.body | with_reducible apply Blind.seq | with_reducible apply Blind.block))) | fail)
    · (refine At_ret Try.results35 rfl (fun w' hw => ?_))
      have hne : ¬ l[k] = m[k] := fun e => by
        have h1 : stpEqB l[k] m[k] = false := by assumption
        rw [hev.2 e] at h1; cases h1
      rw [decide_eq_false (fun e => hne (by subst e; rfl))]
      exact ⟨rfl, hw.below0 rfl⟩
    · have he : l[k] = m[k] := hev.1 (by assumption)
      (refine At_rounds (k + 1) ?_ ?_ ?_ ?_; (exact ⟨by show k + 1 ≤ l.length; omega, Lib.hid (fun j hj => by
        by_cases e : j = k
        · subst e; rw [List.getElem?_eq_getElem hlt, List.getElem?_eq_getElem hlt2, he]
        · exact hall.out j (by omega))⟩); (omega); ((repeat (first | exact SubE.nil _ | refine SubE.cons rfl ?_))); (exact SUBS))
  · obtain rfl : k = l.length := by omega
    repeat' (first | ((first | with_reducible (first | apply TL_q | apply TD_q0 | apply TD_q1 | apply TD_q2 | apply TD_q3) | ((with_reducible (first | apply TD_q0y | apply TD_q1y)); exact rfl; exact rfl; (with_reducible exact rfl))); (first | exact QS.auto | ((with_reducible apply QS_neqStp); exact rfl; exact rfl)); exact rfl) | (refine GO ?_) | (refine GOE ?_; (first | (rintro _ _ ⟨rfl, rfl⟩) | (rintro _ _ ⟨g, rfl, rfl⟩) | (rintro _ _ ⟨A', c', rfl, rfl⟩))) | ((refine GO2 ?_ ?_) <;> intro h <;> (try (repeat (first | with_reducible (replace h := of_decide_eq_true h) | with_reducible (replace h := of_decide_eq_false h) | with_reducible (replace h := bnt h) | with_reducible (replace h := bnf h) | with_reducible (replace h := Int.not_lt.mp h) | with_reducible (replace h := Int.not_le.mp h) | with_reducible (replace h := band_dec h) | with_reducible (replace h := band_decF h) | with_reducible (replace h := bor_dec h) | with_reducible (replace h := bor_decF h)))) <;> (try (exfalso; first | contradiction | omega))) | fail)
    (refine At_ret Try.results35 rfl (fun w' hw => ?_))
    have he : l = m := by
      apply List.ext_getElem?
      intro j
      by_cases hj : j < l.length
      · exact hall.out j hj
      · rw [List.getElem?_eq_none (by omega), List.getElem?_eq_none (by omega)]
    rw [decide_eq_true he]
    exact ⟨rfl, hw.below0 rfl⟩
end Go.Proofs.Ytiimjppceobkfaa

namespace Go.Proofs.Ytiimjppceobkfaa
open Go.ChangeShapes Go.WideShapes Go.ChangeAt Go.RowKit Go.Deep

section
variable {H : Type} {enc : TypeId × Value → H} {P : Program}

/-- arguments read on as they read, where what was there is as it was -/
theorem trodAll_kept (hl : laidOutB P = true) {W W' : World} (hb : Below W.heap.size W W') {sp : Nat → Bool} :
    ∀ {ts : List TypeId} {vs : List Value} {ds : List (DataW H)} {p : List MemPlace}, (∀ t ∈ ts, P.readableRec t = true ∧ t < P.types.size) → (∀ x ∈ p, x.block < W.heap.size) → (∀ x ∈ p, sp x.block = true) →
      DataW.TrodAll enc P W 0 (fun _ => true) true ts vs ds p → DataW.TrodAll enc P W' 0 sp true ts vs ds p
  | [], _, _, _, _, _, _, h => by
    obtain ⟨rfl, rfl, rfl⟩ := trodAll_nil h
    exact trodAll_mk0
  | t :: ts, _, _, _, ht, hp, hs, h => by
    obtain ⟨v, vs, d, ds, a, b, rfl, rfl, rfl, h1, h2⟩ := trodAll_cons h
    obtain ⟨hr, hrow⟩ := ht t (List.mem_cons_self ..)
    refine ⟨a, b, WideElems.Trod_stays hl hr hrow h1 (fun x hx => hb.same (hp x (List.mem_append_left _ hx))) (fun x hx => hs x (List.mem_append_left _ hx)), ?_, rfl⟩
    exact trodAll_kept hl hb (fun t' h' => ht t' (List.mem_cons_of_mem _ h')) (fun x hx => hp x (List.mem_append_right _ hx)) (fun x hx => hs x (List.mem_append_right _ hx)) h2

/-- a law's row behind a walk that ends in 'true' -/
theorem law_post {f : Func} {s : ChangeSpec} {W W' : World} {args : Array Value} {tb : TypeId} {ds gs : List (DataW H)} {before : List MemPlace}
    (hl : laidOutB P = true) (hr : (f.params.toList.all fun t => P.readableRec t && decide (t < P.types.size)) = true) (hv : s.vars = []) (hrt : f.resultTypes = #[tb]) (htb : P.underlying tb = some .bool)
    (hW : DataW.Whole enc P f.params.toList s.vars false W args.toList ds gs before)
    (hs : gs = [] → s.fn H (ds ++ gs) = { results := [.lit (.bool true)], args := ds })
    (hb : Below W.heap.size W W') : s.post enc P f false true false false W args (.bool true) W' := by
  have hlt : ∀ p ∈ before, p.block < W.heap.size := fun p hp => hW.lt p hp
  have hW' := hW
  obtain ⟨p, q, hA, hV, rfl, hfz, hnd⟩ := hW
  rw [hv] at hV
  obtain ⟨rfl, rfl⟩ := trodVars_none hV
  simp only [List.append_nil] at hlt
  have hf := hs rfl
  have hfv : (s.fn H (ds ++ [])).vars = [] := by rw [hf]
  have hr' : ∀ t ∈ f.params.toList, P.readableRec t = true ∧ t < P.types.size := fun t ht => by
    have := List.all_eq_true.1 hr t ht
    simpa using this
  refine ⟨ds, [], p ++ [], [], p, [], hW', ?_, ?_, ?_, ?_, fun h => by cases h⟩
  · rw [hf, hrt]
    exact trodAll_mk1 (shut_bool htb _)
  · rw [hf]
    exact trodAll_kept hl hb hr' hlt (fun x hx => by simpa using hlt x hx) hA
  · rw [hv, hfv]; exact rfl
  · exact hb.frame _

/-- a slice of structs whose fields are all ints: each field of each element by its place -/
theorem open_int_rows {w : World} {base : Nat} {spare : Nat → Bool} {held : Bool} {t e ti : TypeId} {fs : Array Field} {fuel : Nat} {cs : List Value} {x : DataW H × List MemPlace}
    (ht : P.underlying t = some (.slice e)) (he : P.underlying e = some (.struct fs)) (hone : oneCellFields P fs = true) (hC : P.cellsOf e = fs.size) (hti : P.underlying ti = some (.int .i64)) (hfs : (fs.toList.all fun f => f.type == ti) = true)
    (h : DataW.trod enc P w base spare held fuel t cs = some x) :
    ∃ (A : Option Addr) (len cap : Nat) (Z : Nat → Nat → Int), cs = [.slice A len cap] ∧ len ≤ maxLen ∧ len ≤ cap ∧
      ∀ i, i < len → ∀ j, j < fs.size → (Lit.int .i64 (Z i j)).wf = true ∧ ∃ b o, A = some ⟨b, o, none⟩ ∧ b < w.heap.size ∧ w.cell? ⟨b, o + i * fs.size + j, none⟩ = some (.int .i64 (Z i j)) := by
  rcases open_slice ht h with ⟨rfl, rfl⟩ | ⟨a, len, cap, m, n, D, Pl, rfl, hb, hl, hm, hmm, hx, hi⟩
  · exact ⟨none, 0, 0, fun _ _ => 0, rfl, by omega, by omega, fun i hi => by omega⟩
  have hlm : len ≤ m := by rw [hmm]; split <;> omega
  have key : ∀ i, i < len → ∀ j, j < fs.size → ∃ z, (Lit.int .i64 z).wf = true ∧ w.cell? (a.add (i * fs.size + j)) = some (.int .i64 z) := by
    intro i hil j hj
    obtain ⟨cs', hc, htr⟩ := hi i (by omega)
    rw [hC] at hc
    obtain ⟨ys, n', _, _, hlen, _, hf⟩ := DataW.trod_struct he htr
    obtain ⟨_, _, hat⟩ := World.cells?_some hc
    obtain ⟨ho, hk⟩ := hone_of hone j fs[j] (by simp [hj])
    have hty : fs[j].type = ti := by
      have := List.all_eq_true.1 hfs fs[j] (by simp)
      simpa using this
    have h1 := hf j fs[j] (by simp [hj])
    rw [ho, hk] at h1
    have hl' : cs'.length = fs.size := by rw [hlen, hC]
    have hd : (cs'.drop j).take 1 = [cs'[j]'(by omega)] := by
      rw [List.drop_eq_getElem_cons (by omega)]
      rfl
    rw [hd, hty] at h1
    have hys : ys[j]? = some (ys[j]'(by omega)) := List.getElem?_eq_getElem (by omega)
    obtain ⟨z, hz1, _, hwf⟩ := DataW.trod_int hti (h1.trans hys)
    refine ⟨z, hwf, ?_⟩
    rw [← Go.Deep.add_add, hat j hj, List.getElem?_eq_getElem (by omega)]
    simpa using hz1
  have hfun : ∃ Z : Nat → Nat → Int, ∀ i, i < len → ∀ j, j < fs.size → (Lit.int .i64 (Z i j)).wf = true ∧ w.cell? (a.add (i * fs.size + j)) = some (.int .i64 (Z i j)) := by
    classical
    refine ⟨fun i j => if hh : i < len ∧ j < fs.size then Classical.choose (key i hh.1 j hh.2) else 0, fun i hi' j hj => ?_⟩
    simp only [dif_pos (show i < len ∧ j < fs.size from ⟨hi', hj⟩)]
    exact Classical.choose_spec (key i hi' j hj)
  obtain ⟨Z, hZ⟩ := hfun
  refine ⟨some a, len, cap, Z, rfl, by omega, hl, fun i hi' j hj => ⟨(hZ i hi' j hj).1, a.block, a.off, ?_, ?_, ?_⟩⟩
  · have := (hZ i hi' j hj).2
    have hsp : a.spot = none := by
      obtain ⟨ab, ao, spo⟩ := a
      cases spo with
      | none => rfl
      | some s =>
        have h0 := (hZ i hi' 0 (by omega)).2
        have h00 := (hZ 0 (by omega) 0 (by omega)).2
        simp [Addr.add, World.cell?] at h00
        split at h00 <;> simp_all
    cases a; simp_all
  · have := block_lt_of_cell (hZ i hi' j hj).2
    unfold Addr.add at this
    split at this <;> exact this
  · have h1 := (hZ i hi' j hj).2
    have h0 := (hZ 0 (by omega) 0 (by omega)).2
    rw [← h1]
    congr 1
    unfold Addr.add
    split
    · rename_i h2
      obtain ⟨ab, ao, spo⟩ := a
      cases spo with
      | none => simp; omega
      | some s => simp [Addr.add, World.cell?] at h0; split at h0 <;> simp_all
    · simp [Nat.add_assoc]
end

/-- the rows so opened read as a list of whatever is made of their fields -/
theorem rdE_of_rows {α : Type} {w : World} {A : Option Addr} {n m : Nat} {Z : Nat → Nat → Int} (mk : (Nat → Int) → α) (enc : α → List Value) (hm : 0 < m)
    (henc : ∀ z : Nat → Int, ∀ j v, (enc (mk z))[j]? = some v → j < m ∧ v = .int .i64 (z j))
    (hZ : ∀ i, i < n → ∀ j, j < m → (Lit.int .i64 (Z i j)).wf = true ∧ ∃ b o, A = some ⟨b, o, none⟩ ∧ b < w.heap.size ∧ w.cell? ⟨b, o + i * m + j, none⟩ = some (.int .i64 (Z i j))) :
    RdE enc m w A ((List.range n).map fun i => mk (Z i)) := by
  intro i x hx
  have hi : i < n := by
    have := (List.getElem?_eq_some_iff.1 hx).1
    simpa using this
  have hx' : mk (Z i) = x := by simpa [hi] using hx
  subst hx'
  obtain ⟨_, b, o, e1, e2, _⟩ := hZ i hi 0 hm
  refine ⟨b, o, e1, e2, fun j v hv => ?_⟩
  obtain ⟨hj, rfl⟩ := henc _ _ _ hv
  obtain ⟨_, b', o', f1, _, f3⟩ := hZ i hi j hj
  obtain ⟨rfl, rfl⟩ : b = b' ∧ o = o' := by rw [e1] at f1; simpa using f1
  exact f3

/-- a slice of ints as rows of one -/
theorem open_int_list {H : Type} {enc : TypeId × Value → H} {P : Program} {w : World} {base : Nat} {spare : Nat → Bool} {held : Bool} {t e : TypeId} {fuel : Nat} {cs : List Value} {x : DataW H × List MemPlace}
    (ht : P.underlying t = some (.slice e)) (he : P.underlying e = some (.int .i64)) (hc : P.cellsOf e = 1)
    (h : DataW.trod enc P w base spare held fuel t cs = some x) :
    ∃ (A : Option Addr) (len cap : Nat) (Z : Nat → Nat → Int), cs = [.slice A len cap] ∧ len ≤ maxLen ∧ len ≤ cap ∧
      ∀ i, i < len → ∀ j, j < 1 → (Lit.int .i64 (Z i j)).wf = true ∧ ∃ b o, A = some ⟨b, o, none⟩ ∧ b < w.heap.size ∧ w.cell? ⟨b, o + i * 1 + j, none⟩ = some (.int .i64 (Z i j)) := by
  rcases open_ints ht he hc h with ⟨rfl, rfl⟩ | ⟨a, len, cap, zs, rfl, hb, hl, hm, hzl, hx, hat, hwf⟩
  · exact ⟨none, 0, 0, fun _ _ => 0, rfl, by omega, by omega, fun i hi => by omega⟩
  have hlz : len ≤ zs.length := by rw [hzl]; split <;> omega
  refine ⟨some a, len, cap, fun i _ => zs.getD i 0, rfl, by omega, hl, fun i hi j hj => ⟨hwf _ (by show zs.getD i 0 ∈ zs; rw [List.getD_eq_getElem?_getD, List.getElem?_eq_getElem (by omega)]; exact List.getElem_mem _), a.block, a.off, ?_, ?_, ?_⟩⟩
  · have h0 := hat 0 (by omega)
    obtain ⟨ab, ao, spo⟩ := a
    cases spo with
    | none => rfl
    | some s => simp [Addr.add, World.cell?] at h0; split at h0 <;> simp_all
  · have := block_lt_of_cell (hat i (by omega))
    unfold Addr.add at this
    split at this <;> exact this
  · have h0 := hat 0 (by omega)
    rw [← hat i (by omega)]
    congr 1
    obtain ⟨ab, ao, spo⟩ := a
    cases spo with
    | none =>
      obtain rfl : j = 0 := by omega
      simp [Addr.add]
    | some s => simp [Addr.add, World.cell?] at h0; split at h0 <;> simp_all
/-- and read as the list -/
theorem rdE_of_list {w : World} {A : Option Addr} {n : Nat} {Z : Nat → Nat → Int}
    (hZ : ∀ i, i < n → ∀ j, j < 1 → (Lit.int .i64 (Z i j)).wf = true ∧ ∃ b o, A = some ⟨b, o, none⟩ ∧ b < w.heap.size ∧ w.cell? ⟨b, o + i * 1 + j, none⟩ = some (.int .i64 (Z i j))) :
    RdE (fun z : Int => [.int .i64 z]) 1 w A ((List.range n).map fun i => Z i 0) :=
  rdE_of_rows (fun z => z 0) _ (by decide) (fun z j v hv => by
    match j, hv with
    | 0, hv => exact ⟨by decide, by simpa using hv.symm⟩
    | j + 1, hv => simp at hv) hZ

theorem own : ownKnob Try.prog.godebug = none := by kernel_rfl
theorem laidOut : laidOutB Try.prog = true := by kernel_rfl
end Go.Proofs.Ytiimjppceobkfaa
