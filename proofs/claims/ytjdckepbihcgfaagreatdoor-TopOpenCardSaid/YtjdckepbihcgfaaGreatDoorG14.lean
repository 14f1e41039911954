/- Lemmas for the walks (Sea6, Rel, Bits, RelN, Ahc, SeaB, Seq1). No condition. -/
import Derived.Test.YtjdckepbihcgfaaGreatDoorG13
import Derived.Test.YtjdckepbihcgfaaGreatDoorRows
import Derived.Test.YtjdckepbihcgfaaGreatDoorG01
import Derived.ChangeKeysEq
import Derived.Laws.BitsAllLaws
import Derived.Test.YtjdckepbihcgfaaGreatDoorG07
import Derived.Test.YtjdckepbihcgfaaGreatDoorG06
import Derived.Test.YtjdckepbihcgfaaGreatDoorG11
import Derived.RegionTactic
import Derived.BigRegion
import Derived.Laws.ShiftsVarLaws
import Derived.Test.YtjdckepbihcgfaaGreatDoorG08
set_option linter.unusedSimpArgs false
set_option linter.unusedVariables false
set_option linter.unusedSectionVars false
set_option linter.unnecessarySimpa false
namespace Go.Proofs.YtjdckepbihcgfaaGreatDoor
open Go.RowKit

section
variable (A : Option Addr) (c : Nat) (s : List Stp) (w : World) (hA : RdStp w A s) (hl : s.length ≤ 1000)
include hA hl
set_option maxRecDepth 100000 in
theorem cloneStp_any : Calls Tryz.prog 89 #[.slice A s.length c] w fun e w' => ∃ A' c', e = .returned (.slice A' s.length c') ∧ Own Stp.enc 2 49 w' w.heap.size (.slice A' s.length c') s ∧ Below w.heap.size w w' := by
  cases A with
  | none =>
    have hs : s = [] := by
      cases s with
      | nil => rfl
      | cons x s =>
        obtain ⟨b, o, h, _⟩ := hA 0 x rfl
        cases h
    subst hs
    refine calls_T (S := []) [] Tryz.func89 rfl Tryz.ntmps89 (by simp) (Mem.nil _) ?_
    repeat' (first | refine GO ?_ | (refine GOE ?_; (first | rintro _ _ ⟨rfl, rfl⟩ | rintro _ _ ⟨g, rfl, rfl⟩ | rintro _ _ ⟨A', c', rfl, rfl⟩)) | (refine GO2 ?_ ?_ <;> (refine Zs ?_; intro h; try exact Zx)) | fail)
    all_goals first
      | ((refine At_ret Tryz.results89 rfl (fun w' hw => ?_))
         exact ⟨none, 0, rfl, Own.nil _ _, hw.below0 rfl⟩)
      | (exfalso; simp_all; done)
  | some ad =>
    have hne : some ad = none → c = 0 := fun h => by cases h
    refine calls_T (S := []) [] Tryz.func89 rfl Tryz.ntmps89 (by simp) (Mem.nil _) ?_
    repeat' (first | refine GO ?_ | (refine GOE ?_; (first | rintro _ _ ⟨rfl, rfl⟩ | rintro _ _ ⟨g, rfl, rfl⟩ | rintro _ _ ⟨A', c', rfl, rfl⟩)) | (refine GO2 ?_ ?_ <;> (refine Zs ?_; intro h; try exact Zx)) | ((with_reducible (first | apply TD_e2z | apply TD_e3z | apply TL_e | apply TD_e2 | apply TD_e3)); ((with_reducible apply ES_buildSlice0 Stp.enc); exact rfl); (first | exact rfl | exact ⟨rfl, rfl, rfl⟩); (rintro _ _ ⟨g, rfl, rfl⟩); (try refine ⟨SUB, ?_⟩)) | ((with_reducible (first | apply TD_e2z | apply TD_e3z | apply TL_e | apply TD_e2 | apply TD_e3)); ((with_reducible apply ES_append (enc := Stp.enc) (xs := s) (ls := [])); exact rfl; exact rfl; exact Lies.rd hA rfl (fun _ => rfl) (by omega) hne; exact fun _ => rfl; exact fun _ => rfl; (intro A' c'; first | ((repeat (first | with_reducible exact Upd.here _ _ _ | with_reducible apply Upd.there)); done) | (repeat (first | exact Upd.here _ _ _ | apply Upd.there))); (simp; omega); decide; exact rfl); (first | exact rfl | exact ⟨rfl, rfl, rfl⟩); (rintro _ _ ⟨A', c', rfl, rfl⟩); (try refine ⟨SUB, ?_⟩)) | fail)
    (refine At_ret Tryz.results89 rfl (fun w' hw => ?_))
    exact ⟨A', c', rfl, hw.ownOut rfl Zm, hw.below0 rfl⟩
end
theorem relCells_lit (n : Int) (f : Nat → Nat) : relCells n f = #[.int .i64 n, .int .u16 (f 0), .int .u16 (f 1), .int .u16 (f 2), .int .u16 (f 3), .int .u16 (f 4), .int .u16 (f 5), .int .u16 (f 6), .int .u16 (f 7), .int .u16 (f 8), .int .u16 (f 9), .int .u16 (f 10), .int .u16 (f 11)] := rfl
/-- the order that is found, and whether there is one -/
def foundS (ts : List Int) (cs : List Cl) (f : Nat → Nat) : Option (List Stp) := srchC ts cs f cs.length []
theorem found_len {ts : List Int} {cs : List Cl} {f : Nat → Nat} (hcs : CallsOk ts cs) : ∀ (k : Nat) (w : List Stp), PathW ts cs w → ∀ r, srchC ts cs f k w = some r → PathW ts cs r
  | 0, w, hp, r, h => by
    unfold srchC at h
    rw [srch] at h
    split at h
    · cases h; exact hp
    · cases h
  | k + 1, w, hp, r, h => by
    unfold srchC at h
    rw [srch] at h
    split at h
    · cases h; exact hp
    · obtain ⟨i, hi, hr⟩ := List.exists_of_findSome?_eq_some h
      rw [List.mem_range] at hi
      split at hr
      · rename_i hc
        obtain ⟨h1, _, h3⟩ := canC_iff.1 hc
        exact found_len hcs k _ (path_next hcs hp hi h1 (fitsSt_iff.1 h3).1) r hr
      · cases hr
section
variable (T B : Option Addr) (tc d : Nat) (ts : List Int) (cs : List Cl) (n : Int) (f : Nat → Nat) (w : World)
variable (hts : typesOk ts = true) (hcs : CallsOk ts cs) (h9 : cs.length ≤ 9) (hf16 : ∀ i, i < 12 → f i < 65536) (hT : RdInt w T ts) (hB : RdCl w B cs)
include hts hcs h9 hf16 hT hB
set_option maxRecDepth 100000 in
set_option maxHeartbeats 2000000 in
theorem smallest_any : Calls Tryz.prog 43 #[.slice T ts.length tc, .slice B cs.length d, .agg (relCells n f)] w fun e w' =>
    ∃ A c, e = .returned (.tuple #[.slice A ((foundS ts cs f).getD []).length c, .bool (foundS ts cs f).isSome]) ∧ Own Stp.enc 2 49 w' w.heap.size (.slice A ((foundS ts cs f).getD []).length c) ((foundS ts cs f).getD []) ∧ Below w.heap.size w w' := by
  have ht4 : 1 ≤ ts.length ∧ ts.length ≤ 4 := by
    unfold typesOk at hts
    rw [Bool.and_eq_true, decide_eq_true_eq] at hts
    exact hts.1
  have hrun := fun gf gm => run_any' T B tc d ts cs n f gf gm hts hcs h9 hf16 cs.length
  rw [relCells_lit]
  refine calls_T (S := []) [] Tryz.func43 rfl Tryz.ntmps43 (by simp) (Mem.nil _) ?_
  repeat' (first | refine GG ?_ | (refine GE ?_; (first | rintro _ _ ⟨rfl, rfl⟩ | rintro _ _ ⟨g, rfl, rfl⟩ | rintro _ _ ⟨A', c', rfl, rfl⟩); (try refine ⟨SUB, ?_⟩)) | (refine GO2 ?_ ?_ <;> (refine Zs ?_; intro h; try exact Zx)) | refine GOF ?_ ?_ | fail | ((with_reducible (first | apply TD_e2z | apply TD_e3z | apply TL_e | apply TD_e2 | apply TD_e3)); ((with_reducible apply ES_makeSet); exact rfl); (first | exact rfl | exact ⟨rfl, rfl, rfl⟩); (rintro _ _ ⟨g, rfl, rfl⟩); (try refine ⟨SUB, ?_⟩)) | fail)
  rename_i gB gM
  obtain ⟨gf, rfl⟩ : ∃ x, x = g := ⟨_, rfl⟩
  refine T_loop (X := Nat × Option Addr × Nat × List Hd) (fun x => [(21, .int .i64 (x.1 : Nat)), (20, .int .i64 ts.length), (19, .slice T ts.length tc), (8, .pointer (some ⟨gf, 0, none⟩))])
    (fun x => [entBlk gf 152 (finC (.slice T ts.length tc) (.slice B cs.length d) n f (.slice x.2.1 x.2.2.2.length x.2.2.1) 0 (.slice none 0 0) gM), entOwn hdEnc 1 24 x.2.1 x.2.2.1 x.2.2.2, entInner intEnc 1 3 x.2.2.2 ((ts.map begL).take x.1), entOwn Stp.enc 2 49 none 0 [], entSet gM []])
    (fun x => x.1 ≤ ts.length ∧ x.2.2.2.length = x.1) (fun x => ts.length - x.1) (0, none, 0, []) ⟨by (try dsimp only); omega, rfl⟩ Ze (fun w' hw => ?_) ?_
  · have h1 := ((hw.nilOwn hdEnc 1 24).nilInner intEnc 1 3).nilOwn Stp.enc 2 49
    exact h1.sel (by repeat (first | exact Sel.nil _ | (apply Sel.cons; (repeat (first | exact Pick.here _ _ | apply Pick.there)))))
  rintro ⟨k, A, c, hs⟩ ⟨hk, hsl⟩
  dsimp only at hk hsl ⊢
  by_cases hkl : k < ts.length
  · obtain ⟨b, o, rfl, _⟩ := RdE.open hT (by omega)
    have hst := fun w => objStart_any ts[k] w
    have htk : (ts.map begL).take (k + 1) = (ts.map begL).take k ++ [begL ts[k]] := by
      rw [List.take_succ_eq_append_getElem (by rw [List.length_map]; exact hkl), List.getElem_map]
    generalize hrow : begL ts[k] = row at *
    repeat' (first | refine GO ?_ | (refine GOE ?_; (first | rintro _ _ ⟨rfl, rfl⟩ | rintro _ _ ⟨g, rfl, rfl⟩ | rintro _ _ ⟨A', c', rfl, rfl⟩)) | (refine GO2 ?_ ?_ <;> (refine Zs ?_; intro h; try exact Zx)) | ((with_reducible (first | apply TD_e2z | apply TD_e3z | apply TL_e | apply TD_e2 | apply TD_e3)); ((with_reducible apply ES_callOwn (f := 87)); exact rfl; (intro w hw; exact hst w); exact rfl); (first | exact rfl | exact ⟨rfl, rfl, rfl⟩); (rintro _ _ ⟨A0, c0, rfl, rfl⟩); (try refine ⟨SUB, ?_⟩)) | ((with_reducible (first | apply TD_e2z | apply TD_e3z | apply TL_e | apply TD_e2 | apply TD_e3)); ((with_reducible apply ES_append1 (enc := hdEnc) (xx := (⟨A0, row.length, c0⟩ : Hd))); exact rfl; exact rfl; (repeat (first | with_reducible exact List.mem_cons_self | with_reducible apply List.mem_cons_of_mem)); exact rfl; exact fun _ => rfl; exact fun _ => rfl; (intro A' c'; first | ((repeat (first | with_reducible exact Upd.here _ _ _ | with_reducible apply Upd.there)); done) | (repeat (first | exact Upd.here _ _ _ | apply Upd.there))); (omega); decide; exact rfl); (first | exact rfl | exact ⟨rfl, rfl, rfl⟩); (rintro _ _ ⟨A', c', rfl, rfl⟩); (try refine ⟨SUB, ?_⟩)) | fail)
    apply At_rounds (k + 1, A', c', hs ++ [⟨A0, row.length, c0⟩])
    case hE => exact Ze
    case hS =>
      intro w' hw
      have h1 := Mem.absorb (enc := intEnc) (M := 1) (e := 3) (A := A0) (c := c0) (l := row) (by repeat (first | exact Pick.here _ _ | apply Pick.there)) Zu hw
      rw [← htk] at h1
      exact h1.sel Zl
    case hμ => (try dsimp only); omega
    case hp => exact ⟨hkl, by (try dsimp only); rw [List.length_append, hsl]; rfl⟩
  · obtain rfl : k = ts.length := by omega
    have htk : (ts.map begL).take ts.length = ts.map begL := by rw [List.take_of_length_le]; simp
    rw [htk]
    have hS0 : statesW ts cs [] = ts.map begL := rfl
    have hih := fun (C : Ctx) (R' : List Ent) (w' : World) (hw : Mem C w' (finS T B tc d ts cs n f gf gM ⟨A, c, hs, none, 0, []⟩ [] ++ R')) (e1 : C.F = []) (e2 : C.w0 = w) => show runSays T B tc d ts cs n f gf gM cs.length [] ⟨A, c, hs, none, 0, []⟩ w' from by
      subst e2
      exact hrun gf gM [] ⟨A, c, hs, none, 0, []⟩ w' 0 (path_nil hts) (memo_nil ts cs f) (by simp [maskW, unset_0]) (hw.rd e1 hT) (hw.rd e1 hB)
        (fun b o e => hw.newBlk e1 (by obtain ⟨b', o', e', hb'⟩ := RdE.open hT (by omega); rw [e] at e'; cases e'; exact hb'))
        (fun h0 b o e => hw.newBlk e1 (by obtain ⟨b', o', e', hb'⟩ := RdE.open hB h0; rw [e] at e'; cases e'; exact hb')) (hw.self 0)
    unfold runSays at hih
    have hfo : srchC ts cs f cs.length [] = foundS ts cs f := rfl
    have hlen := found_len (f := f) hcs cs.length [] (path_nil hts)
    rw [hfo] at hih hlen
    generalize foundS ts cs f = o at *
    repeat' (first | refine GO ?_ | (refine GOE ?_; (first | rintro _ _ ⟨rfl, rfl⟩ | rintro _ _ ⟨g, rfl, rfl⟩ | rintro _ _ ⟨A', c', rfl, rfl⟩)) | (refine GO2 ?_ ?_ <;> (refine Zs ?_; intro h; try exact Zx)) | fail)
    refine TL_mem (S' := finS T B tc d ts cs n f gf gM ⟨A, c, hs, none, 0, []⟩ []) (fun w' hw => hw.sel (by dsimp only [finS]; repeat (first | exact Sel.nil _ | (apply Sel.cons; (repeat (first | exact Pick.here _ _ | apply Pick.there)))))) ?_
    repeat' (first | refine GO ?_ | (refine GOE ?_; (first | rintro _ _ ⟨rfl, rfl⟩ | rintro _ _ ⟨g, rfl, rfl⟩ | rintro _ _ ⟨A', c', rfl, rfl⟩)) | (refine GO2 ?_ ?_ <;> (refine Zs ?_; intro h; try exact Zx)) | fail)
    refine TL_e (ES_callX (f := 88) (X := {y : Fn // MemoOk ts cs f y.D}) (S1 := finS T B tc d ts cs n f gf gM ⟨A, c, hs, none, 0, []⟩ [])
      (fun _ => .bool o.isSome) (fun z => finS T B tc d ts cs n f gf gM z.1 (o.getD [])) rfl Zp (fun x => by dsimp only [finS]; exact Za)
      (fun w' hw => hih _ _ w' hw rfl rfl) rfl) rfl ?_
    rintro _ _ ⟨⟨⟨hA3, hc3, hs3, oA3, oc3, D3⟩, hD3⟩, rfl, rfl⟩
    cases o with
    | none =>
      dsimp only [Option.isSome, Option.getD]
      repeat' (first | refine GO ?_ | (refine GOE ?_; (first | rintro _ _ ⟨rfl, rfl⟩ | rintro _ _ ⟨g, rfl, rfl⟩ | rintro _ _ ⟨A', c', rfl, rfl⟩)) | (refine GO2 ?_ ?_ <;> (refine Zs ?_; intro h; try exact Zx)) | fail)
      (refine At_ret Tryz.results43 rfl (fun w' hw => ?_))
      exact ⟨none, 0, rfl, Own.nil _ _, hw.below0 rfl⟩
    | some r =>
      dsimp only [Option.isSome, Option.getD]
      have hrl : r.length ≤ 9 := by have := (hlen r rfl).len; omega
      repeat' (first | refine GO ?_ | (refine GOE ?_; (first | rintro _ _ ⟨rfl, rfl⟩ | rintro _ _ ⟨g, rfl, rfl⟩ | rintro _ _ ⟨A', c', rfl, rfl⟩)) | (refine GO2 ?_ ?_ <;> (refine Zs ?_; intro h; try exact Zx)) | ((with_reducible (first | apply TD_e2z | apply TD_e3z | apply TL_e | apply TD_e2 | apply TD_e3)); ((with_reducible apply ES_callOwn (f := 89)); exact rfl; (intro w hw; exact cloneStp_any oA3 oc3 r w (hw.ownRd Zm (fun _ => rfl)) (by omega)); exact rfl); (first | exact rfl | exact ⟨rfl, rfl, rfl⟩); (rintro _ _ ⟨A5, c5, rfl, rfl⟩); (try refine ⟨SUB, ?_⟩)) | fail)
      (refine At_ret Tryz.results43 rfl (fun w' hw => ?_))
      exact ⟨A5, c5, rfl, hw.ownOut rfl Zm, hw.below0 rfl⟩
end
end Go.Proofs.YtjdckepbihcgfaaGreatDoor

namespace Go.Proofs.YtjdckepbihcgfaaGreatDoor
open Go.RowKit
theorem relCells_get0 (n : Int) (f : Nat → Nat) (h : 0 < (relCells n f).size) : (relCells n f)[0] = .int .i64 n := by
  have := relCells_n n f
  rw [Array.getElem?_eq_getElem h] at this
  exact Option.some.inj this
theorem relCells_getS (n : Int) (f : Nat → Nat) (i : Nat) (h : 1 + i < (relCells n f).size) : (relCells n f)[1 + i] = .int .u16 (f i) := by
  have := relCells_at n f i (by rw [relCells_size] at h; omega)
  rw [Array.getElem?_eq_getElem h] at this
  exact Option.some.inj this
def eqTo (f g : Nat → Nat) (is : List Nat) : Bool := is.all fun i => f i == g i
theorem rel_info (n : Int) (f : Nat → Nat) : (Tryz.prog.info? 43).map (·.size) = some (relCells n f).size := by
  rw [relCells_size]; kernel_rfl
theorem exec_load_rel (ev : Operand → Value) (dst : Option Tmp) (x : Operand) (t : TypeId) (pos : String) (after : Array Edge) (guard : Option (Nat × Bool)) (w : World) (h : isRow w 13 (ev x) = true) :
    (execOp ev { dst, op := .load 43 x, type := t, pos, after, guard }).run Tryz.prog w = .ok (.value (.agg (rowOf w (ptrBlk (ev x))))) w :=
  exec_load_row 43 13 _ (by decide) Tryz.underlying43 rfl (by kernel_rfl) ev dst x t pos after guard w h
theorem exec_store_rel (ev : Operand → Value) (dst : Option Tmp) (x y : Operand) (t : TypeId) (pos : String) (after : Array Edge) (guard : Option (Nat × Bool)) (w : World) (h : isRow w 13 (ev x) = true) (h2 : isAggOf 13 (ev y) = true) :
    (execOp ev { dst, op := .store 43 x y, type := t, pos, after, guard }).run Tryz.prog w = .ok .skip (w.setRow (ptrBlk (ev x)) (aggOf (ev y))) :=
  exec_store_row 43 13 (by decide) (by kernel_rfl) ev dst x y t pos after guard w h h2
theorem u16s_at (f : Nat → Nat) (i : Nat) (h : i < 12) : (u16s f 12).toArray[i]? = some (.int .u16 (f i)) := by simp [u16s, h]
theorem relCells_ext (n : Int) (f : Nat → Nat) : (relCells n f).extract 1 13 = (u16s f 12).toArray := by
  rfl
theorem run_items (f g : Nat → Nat) (w : World) (d : Nat) : ∀ is : List Nat, (∀ i ∈ is, i < 12) →
    (Op.eqItems (d + 1) 40 1 (u16s f 12).toArray (u16s g 12).toArray is).run Tryz.prog w = .ok (eqTo f g is) w
  | [], _ => by simp [Op.eqItems, eqTo]
  | i :: is, h => by
    have ih := run_items f g w d is (fun j hj => h j (List.mem_cons_of_mem _ hj))
    have hi := h i (List.mem_cons_self ..)
    have p : ∀ f : Nat → Nat, (part 40 (u16s f 12).toArray (i * 1)).run Tryz.prog w = .ok (.int .u16 (f i)) w := fun f => by
      simp [part, u16s_at f i hi]
    simp only [Op.eqItems, Sem.run_bind, p, Result.andThen_ok, run_equalIn_int w d 40 .u16 .u16 _ _ Tryz.underlying40]
    by_cases he : f i = g i
    · have : (((f i : Nat) : Int) == (g i : Nat)) = true := by simp [he]
      simp [this, ih, eqTo, he]
    · have : (((f i : Nat) : Int) == (g i : Nat)) = false := by simp; omega
      simp [this, eqTo, he]
def relEq (f g : Nat → Nat) : Bool := eqTo f g (List.range 12)
set_option maxRecDepth 40000 in
theorem run_arr_rel (f g : Nat → Nat) (d : Nat) (w : World) : (Op.equalIn (d + 2) 41 (.agg (u16s f 12).toArray) (.agg (u16s g 12).toArray)).run Tryz.prog w = .ok (relEq f g) w := by
  rw [run_equalIn_array w (d + 1) _ _ Tryz.underlying41 (i := Tryz.t40) Tryz.type40]
  exact run_items f g w d (List.range 12) (by simp)
theorem run_eql_rel (n m : Int) (f g : Nat → Nat) (w : World) :
    (binOp .eql 43 (.agg (relCells n f)) (.agg (relCells m g))).run Tryz.prog w = .ok (.bool (n == m && relEq f g)) w := by
  have ha := run_arr_rel f g 9997
  simp only [Nat.reduceAdd] at ha
  rw [run_eql_struct]
  go_simp
  simp only [relCells_n, relCells_ext, Sem.run_pure, Result.andThen_ok, ha]
  rw [run_equalIn_int w 9998 3 .i64 .i64 _ _ Tryz.underlying3]
  simp only [Result.andThen_ok]
  cases h : (n == m)
  · simp
  · simp only [Bool.true_eq_false, if_false]
    cases relEq f g <;> simp
theorem run_eqGuard_rel (op : BinOp) (x y : Operand) (xs ys : Array Value) (w : World) : (eqGuard op 43 x y (.agg xs) (.agg ys)).run Tryz.prog w = .ok () w :=
  run_eqGuard_agg w op _ x y xs ys Tryz.eqGuardType43
end Go.Proofs.YtjdckepbihcgfaaGreatDoor

namespace Go.Proofs.YtjdckepbihcgfaaGreatDoor
theorem pow_lt_16 {m : Nat} (h : m < 16) : 2 ^ m < 65536 := by
  have := Nat.pow_lt_pow_right (a := 2) (by omega) h
  simpa using this
theorem bitsTo_lt_16 (p : Nat → Bool) {m : Nat} (h : m ≤ 16) : bitsTo p m < 65536 := by
  have h1 := bitsTo_lt p m
  have h2 := Nat.pow_le_pow_right (n := 2) (by omega) h
  have : (2 : Nat) ^ 16 = 65536 := by decide
  omega
theorem or_pow (p : Nat → Bool) (m : Nat) : bitsTo p m ||| 2 ^ m = bitsTo p m + 2 ^ m := by
  have := Nat.two_pow_add_eq_or_of_lt (bitsTo_lt p m) 1
  simp only [Nat.mul_one] at this
  rw [Nat.or_comm, ← this, Nat.add_comm]
theorem wrap_pow {m : Nat} (h : m < 16) : IntKind.u16.wrap (2 ^ m) = ((2 ^ m : Nat) : Int) := by
  have := pow_lt_16 h
  have e : ((2 : Int) ^ m) = ((2 ^ m : Nat) : Int) := by simp
  rw [IntKind.wrap_u16, e]
  generalize 2 ^ m = x at *
  omega
theorem or_bit (p : Nat → Bool) {m : Nat} (h : m < 16) (hp : p m = true) : bits BinOp.or IntKind.u16 (bitsTo p m : Nat) (IntKind.u16.wrap (2 ^ m)) = ((bitsTo p (m + 1) : Nat) : Int) := by
  rw [wrap_pow h, u16_or_nat _ _ (bitsTo_lt_16 p (by omega)) (pow_lt_16 h), or_pow]
  simp [bitsTo, hp]
end Go.Proofs.YtjdckepbihcgfaaGreatDoor

namespace Go.Proofs.YtjdckepbihcgfaaGreatDoor

def orP (P Q : Nat → Nat → Bool) (k m : Nat) (i j : Nat) : Bool := P i j || (Q i j && (decide (i < k) || (decide (i = k) && decide (j < m))))
def relN (R : Nat → Nat → Bool) (n : Nat) : Nat → Nat := fun i => if i < n then bitsTo (R i) n else 0
theorem bitsTo_same {p q : Nat → Bool} : ∀ {n : Nat}, (∀ j, j < n → p j = q j) → bitsTo p n = bitsTo q n
  | 0, _ => rfl
  | n + 1, h => by rw [bitsTo, bitsTo, bitsTo_same (fun j hj => h j (by omega)), h n (by omega)]
theorem bitsTo_off {p : Nat → Bool} : ∀ {n : Nat}, (∀ j, j < n → p j = false) → bitsTo p n = 0
  | 0, _ => rfl
  | n + 1, h => by rw [bitsTo, bitsTo_off (fun j hj => h j (by omega)), h n (by omega)]; rfl
theorem relN_congr {R R' : Nat → Nat → Bool} {n : Nat} (h : ∀ i j, i < n → j < n → R i j = R' i j) : relN R n = relN R' n := by
  funext i
  unfold relN
  by_cases hi : i < n
  · rw [if_pos hi, if_pos hi]; exact bitsTo_same fun j hj => h i j hi hj
  · rw [if_neg hi, if_neg hi]
theorem relN_0 (n : Nat) : relN (fun _ _ => false) n = fun _ => 0 := by
  funext i
  unfold relN
  split
  · exact bitsTo_off fun _ _ => rfl
  · rfl
theorem bitsTo_or {p q : Nat → Bool} {n m : Nat} (hm : m < n) (hq : ∀ j, j < n → q j = (p j || decide (j = m))) : bitsTo p n ||| 2 ^ m = bitsTo q n := by
  apply Nat.eq_of_testBit_eq
  intro j
  rw [Nat.testBit_or, bitsTo_testBit, bitsTo_testBit, Nat.testBit_two_pow]
  by_cases hj : j < n
  · rw [decide_eq_true hj, hq j hj]
    by_cases e : j = m
    · subst e; simp
    · rw [decide_eq_false e, decide_eq_false (fun h => e h.symm)]; simp
  · rw [decide_eq_false hj, decide_eq_false (show ¬ m = j by omega)]; rfl
section
variable {P Q : Nat → Nat → Bool} {n k m : Nat}
theorem orP_0 : orP P Q 0 0 = P := by
  funext i j
  unfold orP
  rw [decide_eq_false (show ¬ i < 0 by omega), decide_eq_false (show ¬ j < 0 by omega)]; simp
theorem relN_next : relN (orP P Q k n) n = relN (orP P Q (k + 1) 0) n := relN_congr fun i j hi hj => by
  unfold orP
  rw [decide_eq_true hj, decide_eq_false (show ¬ j < 0 by omega), Bool.and_true, Bool.and_false, Bool.or_false]
  congr 2
  rw [Bool.eq_iff_iff]; simp; omega
theorem relN_done : relN (orP P Q n 0) n = relN (fun i j => P i j || Q i j) n := relN_congr fun i j hi hj => by
  unfold orP
  rw [decide_eq_true hi]; simp
theorem orP_step (j : Nat) : orP P Q k (m + 1) k j = (orP P Q k m k j || (Q k m && decide (j = m))) := by
  unfold orP
  by_cases e : j = m
  · subst e
    rw [decide_eq_true (show j < j + 1 by omega), decide_eq_false (show ¬ j < j by omega)]; simp
  · rw [decide_eq_false e]
    have : decide (j < m + 1) = decide (j < m) := by rw [Bool.eq_iff_iff]; simp; omega
    rw [this]; simp
theorem orP_else {i : Nat} (h : i ≠ k) (m' j : Nat) : orP P Q k m i j = orP P Q k m' i j := by
  unfold orP; rw [decide_eq_false h]; simp
theorem relN_yes (hk : k < n) (hm : m < n) (h : Q k m = true) : upd (relN (orP P Q k m) n) k (relN (orP P Q k m) n k ||| 2 ^ m) = relN (orP P Q k (m + 1)) n := by
  funext i
  unfold upd relN
  by_cases e : i = k
  · subst e
    rw [if_pos rfl, if_pos hk, if_pos hk]
    exact bitsTo_or hm fun j _ => by rw [orP_step, h, Bool.true_and]
  · rw [if_neg e]
    split
    · exact bitsTo_same fun j _ => orP_else e _ _
    · rfl
theorem relN_no (h : Q k m = false) : relN (orP P Q k m) n = relN (orP P Q k (m + 1)) n := relN_congr fun i j hi hj => by
  by_cases e : i = k
  · subst e; rw [orP_step, h]; simp
  · exact orP_else e _ _
end
theorem relN_lt (R : Nat → Nat → Bool) {n : Nat} (hn : n ≤ 16) (i : Nat) : relN R n i < 65536 := by
  unfold relN
  split
  · exact bitsTo_lt_16 _ hn
  · decide
theorem relN_lt_n (R : Nat → Nat → Bool) (n i : Nat) : relN R n i < 2 ^ n := by
  unfold relN
  split
  · exact bitsTo_lt _ _
  · exact Nat.pow_pos (by decide)
theorem relN_bit (R : Nat → Nat → Bool) (n i j : Nat) : (relN R n i).testBit j = (decide (i < n) && (decide (j < n) && R i j)) := by
  unfold relN
  by_cases h : i < n
  · rw [if_pos h, bitsTo_testBit, decide_eq_true h, Bool.true_and]
  · rw [if_neg h, decide_eq_false h]; simp
end Go.Proofs.YtjdckepbihcgfaaGreatDoor

namespace Go.Proofs.YtjdckepbihcgfaaGreatDoor
open Go.RowKit

/-! who was answered ahead of whose call -/
def aheadP (cs : List Cl) (i j : Nat) : Bool := !decide ((cs.getD i default).to = -1) && decide ((cs.getD i default).to < (cs.getD j default).from_)
theorem clD {cs : List Cl} {i : Nat} (h : i < cs.length) : cs.getD i default = cs[i] := by simp [h]
def relAhead (cs : List Cl) : Nat → Nat := relN (aheadP cs) cs.length
theorem relAhead_done (cs : List Cl) : relN (fun i j => (fun _ _ => false) i j || aheadP cs i j) cs.length = relAhead cs := by simp [relAhead]
section
variable (A : Option Addr) (c : Nat) (cs : List Cl) (w : World) (hA : RdCl w A cs)
include hA
set_option maxRecDepth 100000 in
set_option maxHeartbeats 4000000 in
theorem ahead_ok (hl : cs.length ≤ 12) : Calls Tryz.prog 17 #[.slice A cs.length c] w fun e w' => e = .returned (.tuple #[.agg (relCells cs.length (relAhead cs)), .int .i64 0]) ∧ Below w.heap.size w w' := by
  refine calls_T (S := []) [] Tryz.func17 rfl Tryz.ntmps17 (by simp) (Mem.nil _) ?_
  repeat' (first | refine GO ?_ | (refine GOE ?_; (first | rintro _ _ ⟨rfl, rfl⟩ | rintro _ _ ⟨g, rfl, rfl⟩ | rintro _ _ ⟨A', c', rfl, rfl⟩)) | (refine GO2 ?_ ?_ <;> (refine Zs ?_; intro h; try exact Zx)) | fail)
  rename_i g2
  obtain ⟨gr, rfl⟩ : ∃ x, x = g := ⟨_, rfl⟩
  refine T_loop (X := Nat) (fun k => [(18, .int .i64 (k : Nat)), (17, .int .i64 cs.length), (16, .slice A cs.length c), (4, .pointer (some ⟨gr, 0, none⟩)), (2, .pointer (some ⟨g2, 0, none⟩)), (0, .slice A cs.length c)])
    (fun k => [entBlk gr 43 (relCells cs.length (relN (orP (fun _ _ => false) (aheadP cs) k 0) cs.length)), entBlk g2 43 (relCells 0 (fun _ => 0))]) (fun k => k ≤ cs.length) (fun k => cs.length - k) 0 (by omega) Ze (fun w hw => by rw [orP_0, relN_0]; exact hw) ?_
  intro k hk
  by_cases hkk : k < cs.length
  · obtain ⟨b, o, rfl, _⟩ := RdE.open hA (by omega)
    repeat' (first | refine GO ?_ | (refine GOE ?_; (first | rintro _ _ ⟨rfl, rfl⟩ | rintro _ _ ⟨g, rfl, rfl⟩ | rintro _ _ ⟨A', c', rfl, rfl⟩)) | (refine GO2 ?_ ?_ <;> (refine Zs ?_; intro h; try exact Zx)) | fail)
    obtain ⟨gm, rfl⟩ : ∃ x, x = g := ⟨_, rfl⟩
    refine T_loop (X := Nat) (fun m => [(25, .int .i64 (m : Nat)), (24, .int .i64 cs.length), (23, .slice (some ⟨b, o, none⟩) cs.length c), (6, .pointer (some ⟨gm, 0, none⟩)), (5, .int .i64 (k : Nat)), (18, .int .i64 (k : Nat)), (17, .int .i64 cs.length), (16, .slice (some ⟨b, o, none⟩) cs.length c), (4, .pointer (some ⟨gr, 0, none⟩)), (2, .pointer (some ⟨g2, 0, none⟩)), (0, .slice (some ⟨b, o, none⟩) cs.length c)])
      (fun m => [entBlk gm 36 cs[k].enc.toArray, entBlk gr 43 (relCells cs.length (relN (orP (fun _ _ => false) (aheadP cs) k m) cs.length)), entBlk g2 43 (relCells 0 (fun _ => 0))]) (fun m => m ≤ cs.length) (fun m => cs.length - m) 0 (by omega) Ze (fun w hw => hw) ?_
    intro m hml
    by_cases hmm : m < cs.length
    · have hq : aheadP cs k m = (!decide (cs[k].to = -1) && decide (cs[k].to < cs[m].from_)) := by rw [aheadP, clD hkk, clD hmm]
      have hlt := relN_lt (orP (fun _ _ => false) (aheadP cs) k m) (n := cs.length) (by omega) k
      have hpm := pow_lt_16 (m := m) (by omega)
      have hyes := relN_yes (P := fun _ _ => false) (Q := aheadP cs) hkk hmm
      have hno := relN_no (P := fun _ _ => false) (Q := aheadP cs) (n := cs.length) (k := k) (m := m)
      obtain ⟨F, hFF⟩ : ∃ F, relN (orP (fun _ _ => false) (aheadP cs) k m) cs.length = F := ⟨_, rfl⟩
      rw [hFF] at hyes hno hlt ⊢
      repeat' (first | refine GO ?_ | (refine GOE ?_; (first | rintro _ _ ⟨rfl, rfl⟩ | rintro _ _ ⟨g, rfl, rfl⟩ | rintro _ _ ⟨A', c', rfl, rfl⟩)) | (refine GO2 ?_ ?_ <;> (refine Zs ?_; intro h; try exact Zx)) | fail)
      all_goals
        refine At_rounds (m + 1) (by omega) (by omega) Ze (fun w hw => ?_)
        first
          | (rw [← hyes (by rw [hq, decide_eq_false (show ¬ cs[k].to = -1 by assumption), decide_eq_true (by assumption)]; rfl)]; exact hw.sub (by first | ((repeat (first | with_reducible exact List.nil_sublist _ | with_reducible exact List.Sublist.refl _ | with_reducible apply List.Sublist.cons_cons | with_reducible apply List.Sublist.cons)); done) | (repeat (first | exact List.nil_sublist _ | exact List.Sublist.refl _ | apply List.Sublist.cons_cons | apply List.Sublist.cons))))
          | (rw [← hno (by rw [hq, decide_eq_true (show cs[k].to = -1 by assumption)]; rfl)]; exact hw.sub (by first | ((repeat (first | with_reducible exact List.nil_sublist _ | with_reducible exact List.Sublist.refl _ | with_reducible apply List.Sublist.cons_cons | with_reducible apply List.Sublist.cons)); done) | (repeat (first | exact List.nil_sublist _ | exact List.Sublist.refl _ | apply List.Sublist.cons_cons | apply List.Sublist.cons))))
          | (rw [← hno (by rw [hq, decide_eq_false (show ¬ cs[k].to < cs[m].from_ by omega)]; simp)]; exact hw.sub (by first | ((repeat (first | with_reducible exact List.nil_sublist _ | with_reducible exact List.Sublist.refl _ | with_reducible apply List.Sublist.cons_cons | with_reducible apply List.Sublist.cons)); done) | (repeat (first | exact List.nil_sublist _ | exact List.Sublist.refl _ | apply List.Sublist.cons_cons | apply List.Sublist.cons))))
    · obtain rfl : m = cs.length := by omega
      repeat' (first | refine GO ?_ | (refine GOE ?_; (first | rintro _ _ ⟨rfl, rfl⟩ | rintro _ _ ⟨g, rfl, rfl⟩ | rintro _ _ ⟨A', c', rfl, rfl⟩)) | (refine GO2 ?_ ?_ <;> (refine Zs ?_; intro h; try exact Zx)) | fail)
      refine At_rounds (k + 1) (by omega) (by omega) Ze (fun w hw => ?_)
      rw [← relN_next]
      exact hw.sub (by first | ((repeat (first | with_reducible exact List.nil_sublist _ | with_reducible exact List.Sublist.refl _ | with_reducible apply List.Sublist.cons_cons | with_reducible apply List.Sublist.cons)); done) | (repeat (first | exact List.nil_sublist _ | exact List.Sublist.refl _ | apply List.Sublist.cons_cons | apply List.Sublist.cons)))
  · obtain rfl : k = cs.length := by omega
    repeat' (first | refine GO ?_ | (refine GOE ?_; (first | rintro _ _ ⟨rfl, rfl⟩ | rintro _ _ ⟨g, rfl, rfl⟩ | rintro _ _ ⟨A', c', rfl, rfl⟩)) | (refine GO2 ?_ ?_ <;> (refine Zs ?_; intro h; try exact Zx)) | fail)
    ((with_reducible apply At_retM Tryz.results17); (repeat (first | exact ResIs.nil | (apply ResIs.tmp; exact rfl) | (apply ResIs.cell; exact rfl; exact Lds.auto))); intro w' hw)
    exact ⟨by rw [← relAhead_done, ← relN_done]; rfl, hw.below0 rfl⟩
set_option maxRecDepth 100000 in
set_option maxHeartbeats 4000000 in
omit hA in
theorem ahead_large (hl : 12 < cs.length) (hl2 : cs.length ≤ 9223372036854775807) : Calls Tryz.prog 17 #[.slice A cs.length c] w fun e w' => e = .returned (.tuple #[.agg (relCells 0 (fun _ => 0)), .int .i64 2]) ∧ Below w.heap.size w w' := by
  refine calls_T (S := []) [] Tryz.func17 rfl Tryz.ntmps17 (by simp) (Mem.nil _) ?_
  repeat' (first | refine GO ?_ | (refine GOE ?_; (first | rintro _ _ ⟨rfl, rfl⟩ | rintro _ _ ⟨g, rfl, rfl⟩ | rintro _ _ ⟨A', c', rfl, rfl⟩)) | (refine GO2 ?_ ?_ <;> (refine Zs ?_; intro h; try exact Zx)) | fail)
  ((with_reducible apply At_retM Tryz.results17); (repeat (first | exact ResIs.nil | (apply ResIs.tmp; exact rfl) | (apply ResIs.cell; exact rfl; exact Lds.auto))); intro w' hw)
  exact ⟨rfl, hw.below0 rfl⟩
end
end Go.Proofs.YtjdckepbihcgfaaGreatDoor

namespace Go.Proofs.YtjdckepbihcgfaaGreatDoor
open Go.RowKit

/-- the calls, if they are few enough; what is wrong -/
def fewS (ts : List Int) (l : List Ev) : List Cl × Int := if (callsR ts l).2.2 ≠ 0 then ([], (callsR ts l).2.2) else if 9 < (callsR ts l).1.length then ([], 2) else ((callsR ts l).1, 0)
theorem fewS_err {ts : List Int} {l : List Ev} (h : ¬ (callsR ts l).2.2 = 0) : fewS ts l = ([], (callsR ts l).2.2) := by unfold fewS; rw [if_pos h]
theorem fewS_large {ts : List Int} {l : List Ev} (h : (callsR ts l).2.2 = 0) (h9 : 9 < (callsR ts l).1.length) : fewS ts l = ([], 2) := by unfold fewS; rw [if_neg (by simp [h]), if_pos h9]
theorem fewS_ok {ts : List Int} {l : List Ev} (h : (callsR ts l).2.2 = 0) (h9 : ¬ 9 < (callsR ts l).1.length) : fewS ts l = ((callsR ts l).1, 0) := by unfold fewS; rw [if_neg (by simp [h]), if_neg h9]
/-- what is so of them -/
structure SeaOk (ts : List Int) (cs : List Cl) : Prop where
  types : typesOk ts = true
  calls : CallsOk ts cs
  few : cs.length ≤ 9
  cls : ClsOk ts 200 cs
  tos : ClsTo 200 cs
theorem fewS_facts {ts : List Int} {l : List Ev} (h : (fewS ts l).2 = 0) : SeaOk ts (fewS ts l).1 := by
  by_cases h0 : (callsR ts l).2.2 = 0
  · by_cases h9 : 9 < (callsR ts l).1.length
    · rw [fewS_large h0 h9] at h; cases h
    · obtain ⟨h1, h2, _, h4⟩ := callsR_inv h0
      rw [fewS_ok h0 h9]
      have hc := clsOk_st ts l l.length
      have ht := clsTo_st ts l l.length
      rw [← h4] at hc ht
      exact ⟨h1, CallsOk.of hc, by (try dsimp only); omega, ⟨fun q hq => (hc.each q hq).mono (by omega), hc.rising⟩, ⟨fun q hq => by rcases ht.to q hq with h1 | h1; exact .inl h1; exact .inr ⟨h1.1, Int.lt_of_lt_of_le h1.2 (by omega)⟩, ht.one⟩⟩
  · rw [fewS_err h0] at h; exact absurd h h0
section
variable (A0 B0 : Option Addr) (c0 d0 : Nat) (ts : List Int) (l : List Ev) (w : World) (hts : ts.length ≤ 9223372036854775807) (hl : l.length ≤ 9223372036854775807) (hT : RdInt w A0 ts) (hA : RdEv w B0 l)
include hts hl hT hA
set_option maxRecDepth 100000 in
theorem searchCalls_any : Calls Tryz.prog 42 #[.slice A0 ts.length c0, .slice B0 l.length d0] w fun e w' => ∃ A c, e = .returned (.tuple #[.slice A (fewS ts l).1.length c, .int .i64 (fewS ts l).2]) ∧ Own Cl.enc 7 36 w' w.heap.size (.slice A (fewS ts l).1.length c) (fewS ts l).1 ∧ Below w.heap.size w w' := by
  have h1 := fun w h1 h2 => callsCode_any A0 B0 c0 d0 ts l w hts hl h1 h2
  have he := fewS_err (ts := ts) (l := l)
  have hg := fewS_large (ts := ts) (l := l)
  have ho := fewS_ok (ts := ts) (l := l)
  generalize fewS ts l = F at *
  generalize callsR ts l = R at *
  obtain ⟨cs, at_, er⟩ := R
  dsimp only at h1 he hg ho
  refine calls_T (S := []) [] Tryz.func42 rfl Tryz.ntmps42 (by simp) (Mem.nil _) ?_
  repeat' (first | refine GO ?_ | (refine GOE ?_; (first | rintro _ _ ⟨rfl, rfl⟩ | rintro _ _ ⟨g, rfl, rfl⟩ | rintro _ _ ⟨A', c', rfl, rfl⟩)) | (refine GO2 ?_ ?_ <;> (refine Zs ?_; intro h; try exact Zx)) | ((with_reducible (first | apply TD_e2z | apply TD_e3z | apply TL_e | apply TD_e2 | apply TD_e3)); ((with_reducible apply ES_callOwn (f := 12)); exact rfl; (intro w hw; exact h1 w (hw.rd rfl hT) (hw.rd rfl hA)); exact rfl); (first | exact rfl | exact ⟨rfl, rfl, rfl⟩); (rintro _ _ ⟨A1, c1, rfl, rfl⟩); (try refine ⟨SUB, ?_⟩)) | fail)
  · (refine At_ret Tryz.results42 rfl (fun w' hw => ?_))
    rw [he (by assumption)]
    exact ⟨none, 0, rfl, Own.nil _ _, hw.below0 rfl⟩
  · (refine At_ret Tryz.results42 rfl (fun w' hw => ?_))
    rw [hg (by assumption) (by omega)]
    exact ⟨none, 0, rfl, Own.nil _ _, hw.below0 rfl⟩
  · (refine At_ret Tryz.results42 rfl (fun w' hw => ?_))
    rw [ho (by assumption) (by omega)]
    exact ⟨A1, c1, rfl, hw.ownOut rfl Zm, hw.below0 rfl⟩
end
theorem relOk_ahead {ts : List Int} {cs : List Cl} (h : SeaOk ts cs) : RelOk cs (relAhead cs) := by
  intro i j hb
  unfold relAhead at hb
  rw [relN_bit, Bool.and_eq_true, Bool.and_eq_true, decide_eq_true_eq, decide_eq_true_eq] at hb
  obtain ⟨hi, hj, ha⟩ := hb
  unfold aheadP at ha
  rw [clD hi, clD hj, Bool.and_eq_true, Bool.not_eq_true', decide_eq_false_iff_not, decide_eq_true_eq] at ha
  refine ⟨hi, hj, fun e => ?_, by rw [callAt_eq hi]; exact ha.1⟩
  subst e
  rcases h.tos.to i hi with h1 | h1
  · exact ha.1 h1
  · omega
theorem relAhead_16 (cs : List Cl) (h : cs.length ≤ 16) (i : Nat) : relAhead cs i < 65536 := relN_lt _ h i
section
variable (A0 B0 D : Option Addr) (c0 d0 dc : Nat) (ts : List Int) (l : List Ev) (v : List Stp) (w : World) (hts : ts.length ≤ 9223372036854775807) (hl : l.length ≤ 9223372036854775807) (hv : v.length ≤ 9223372036854775807) (hT : RdInt w A0 ts) (hA : RdEv w B0 l) (hD : RdStp w D v)
include hts hl hT hA
def findS (ts : List Int) (l : List Ev) (F : List Cl → Nat → Nat) : Option (List Stp) := if (fewS ts l).2 = 0 then foundS ts (fewS ts l).1 (F (fewS ts l).1) else none
set_option maxRecDepth 100000 in
set_option maxHeartbeats 1000000 in
theorem searchFind_any : Calls Tryz.prog 9 #[.slice A0 ts.length c0, .slice B0 l.length d0] w fun e w' => ∃ A c, e = .returned (.tuple #[.slice A ((findS ts l relAhead).getD []).length c, .bool (findS ts l relAhead).isSome, .int .i64 (fewS ts l).2]) ∧
    Own Stp.enc 2 49 w' w.heap.size (.slice A ((findS ts l relAhead).getD []).length c) ((findS ts l relAhead).getD []) ∧ Below w.heap.size w w' := by
  have h1 := fun w h1 h2 => searchCalls_any A0 B0 c0 d0 ts l w hts hl h1 h2
  have hf := fewS_facts (ts := ts) (l := l)
  unfold findS
  generalize fewS ts l = F at *
  obtain ⟨cs, er⟩ := F
  dsimp only at h1 hf ⊢
  refine calls_T (S := []) [] Tryz.func9 rfl Tryz.ntmps9 (by simp) (Mem.nil _) ?_
  by_cases h0 : er = 0
  · subst h0
    have hs := hf rfl
    have h9 := hs.few
    have hah := fun A c w' h => ahead_ok A c cs w' h (by omega)
    have hsm := fun A c w' h1 h2 => smallest_any A0 A c0 c ts cs cs.length (relAhead cs) w' hs.types hs.calls h9 (fun i _ => relAhead_16 cs (by omega) i) h1 h2
    rw [if_pos rfl]
    generalize foundS ts cs (relAhead cs) = o at *
    repeat' (first | refine GO ?_ | (refine GOE ?_; (first | rintro _ _ ⟨rfl, rfl⟩ | rintro _ _ ⟨g, rfl, rfl⟩ | rintro _ _ ⟨A', c', rfl, rfl⟩)) | (refine GO2 ?_ ?_ <;> (refine Zs ?_; intro h; try exact Zx)) | ((with_reducible (first | apply TD_e2z | apply TD_e3z | apply TL_e | apply TD_e2 | apply TD_e3)); ((with_reducible apply ES_callOwn (f := 42)); exact rfl; (intro w hw; exact h1 w (hw.rd rfl hT) (hw.rd rfl hA)); exact rfl); (first | exact rfl | exact ⟨rfl, rfl, rfl⟩); (rintro _ _ ⟨A1, c1, rfl, rfl⟩); (try refine ⟨SUB, ?_⟩)) | ((with_reducible (first | apply TD_e2z | apply TD_e3z | apply TL_e | apply TD_e2 | apply TD_e3)); ((with_reducible apply ES_callV (f := 17)); exact rfl; (intro w hw; exact hah _ _ w (hw.ownRd Zm (fun _ => rfl))); exact rfl); (first | exact rfl | exact ⟨rfl, rfl, rfl⟩); (rintro _ _ ⟨rfl, rfl⟩); (try refine ⟨SUB, ?_⟩)) | ((with_reducible (first | apply TD_e2z | apply TD_e3z | apply TL_e | apply TD_e2 | apply TD_e3)); ((with_reducible apply ES_callOwn (f := 43)); exact rfl; (intro w hw; exact hsm _ _ w (hw.rd rfl hT) (hw.ownRd Zm (fun _ => rfl))); exact rfl); (first | exact rfl | exact ⟨rfl, rfl, rfl⟩); (rintro _ _ ⟨A5, c5, rfl, rfl⟩); (try refine ⟨SUB, ?_⟩)) | fail)
    (refine At_ret Tryz.results9 rfl (fun w' hw => ?_))
    exact ⟨A5, c5, rfl, hw.ownOut rfl Zm, hw.below0 rfl⟩
  · rw [if_neg h0]
    repeat' (first | refine GO ?_ | (refine GOE ?_; (first | rintro _ _ ⟨rfl, rfl⟩ | rintro _ _ ⟨g, rfl, rfl⟩ | rintro _ _ ⟨A', c', rfl, rfl⟩)) | (refine GO2 ?_ ?_ <;> (refine Zs ?_; intro h; try exact Zx)) | ((with_reducible (first | apply TD_e2z | apply TD_e3z | apply TL_e | apply TD_e2 | apply TD_e3)); ((with_reducible apply ES_callOwn (f := 42)); exact rfl; (intro w hw; exact h1 w (hw.rd rfl hT) (hw.rd rfl hA)); exact rfl); (first | exact rfl | exact ⟨rfl, rfl, rfl⟩); (rintro _ _ ⟨A1, c1, rfl, rfl⟩); (try refine ⟨SUB, ?_⟩)) | fail)
    (refine At_ret Tryz.results9 rfl (fun w' hw => ?_))
    exact ⟨none, 0, rfl, Own.nil _ _, hw.below0 rfl⟩
end
end Go.Proofs.YtjdckepbihcgfaaGreatDoor

namespace Go.Proofs.YtjdckepbihcgfaaGreatDoor
open Go.RowKit

def peopleP (cs : List Cl) (i j : Nat) : Bool := decide ((cs.getD i default).who = (cs.getD j default).who) && decide (i < j)
def relPeople (cs : List Cl) : Nat → Nat := relN (peopleP cs) cs.length
theorem relPeople_done (cs : List Cl) : relN (fun i j => (fun _ _ => false) i j || peopleP cs i j) cs.length = relPeople cs := by simp [relPeople]
theorem relPeople_16 (cs : List Cl) (h : cs.length ≤ 16) (i : Nat) : relPeople cs i < 65536 := relN_lt _ h i
section
variable (A : Option Addr) (c : Nat) (cs : List Cl) (w : World) (hA : RdCl w A cs)
include hA
set_option maxRecDepth 100000 in
set_option maxHeartbeats 4000000 in
theorem programs_any (hl : cs.length ≤ 12) : Calls Tryz.prog 44 #[.slice A cs.length c] w fun e w' => e = .returned (.agg (relCells cs.length (relPeople cs))) ∧ Below w.heap.size w w' := by
  refine calls_T (S := []) [] Tryz.func44 rfl Tryz.ntmps44 (by simp) (Mem.nil _) ?_
  repeat' (first | refine GO ?_ | (refine GOE ?_; (first | rintro _ _ ⟨rfl, rfl⟩ | rintro _ _ ⟨g, rfl, rfl⟩ | rintro _ _ ⟨A', c', rfl, rfl⟩)) | (refine GO2 ?_ ?_ <;> (refine Zs ?_; intro h; try exact Zx)) | fail)
  rename_i g2
  obtain ⟨gr, rfl⟩ : ∃ x, x = g := ⟨_, rfl⟩
  refine T_loop (X := Nat) (fun k => [(13, .int .i64 (k : Nat)), (12, .int .i64 cs.length), (11, .slice A cs.length c), (3, .pointer (some ⟨gr, 0, none⟩)), (2, .pointer (some ⟨g2, 0, none⟩)), (0, .slice A cs.length c)])
    (fun k => [entBlk gr 43 (relCells cs.length (relN (orP (fun _ _ => false) (peopleP cs) k 0) cs.length)), entBlk g2 43 (relCells 0 (fun _ => 0))]) (fun k => k ≤ cs.length) (fun k => cs.length - k) 0 (by omega) Ze (fun w hw => by rw [orP_0, relN_0]; exact hw) ?_
  intro k hk
  by_cases hkk : k < cs.length
  · obtain ⟨b, o, rfl, _⟩ := RdE.open hA (by omega)
    repeat' (first | refine GO ?_ | (refine GOE ?_; (first | rintro _ _ ⟨rfl, rfl⟩ | rintro _ _ ⟨g, rfl, rfl⟩ | rintro _ _ ⟨A', c', rfl, rfl⟩)) | (refine GO2 ?_ ?_ <;> (refine Zs ?_; intro h; try exact Zx)) | fail)
    obtain ⟨gm, rfl⟩ : ∃ x, x = g := ⟨_, rfl⟩
    refine T_loop (X := Nat) (fun m => [(20, .int .i64 (m : Nat)), (19, .int .i64 cs.length), (18, .slice (some ⟨b, o, none⟩) cs.length c), (5, .pointer (some ⟨gm, 0, none⟩)), (4, .int .i64 (k : Nat)), (13, .int .i64 (k : Nat)), (12, .int .i64 cs.length), (11, .slice (some ⟨b, o, none⟩) cs.length c), (3, .pointer (some ⟨gr, 0, none⟩)), (2, .pointer (some ⟨g2, 0, none⟩)), (0, .slice (some ⟨b, o, none⟩) cs.length c)])
      (fun m => [entBlk gm 36 cs[k].enc.toArray, entBlk gr 43 (relCells cs.length (relN (orP (fun _ _ => false) (peopleP cs) k m) cs.length)), entBlk g2 43 (relCells 0 (fun _ => 0))]) (fun m => m ≤ cs.length) (fun m => cs.length - m) 0 (by omega) Ze (fun w hw => hw) ?_
    intro m hml
    by_cases hmm : m < cs.length
    · have hq : peopleP cs k m = (decide (cs[k].who = cs[m].who) && decide (k < m)) := by rw [peopleP, clD hkk, clD hmm]
      have hlt := relN_lt (orP (fun _ _ => false) (peopleP cs) k m) (n := cs.length) (by omega) k
      have hpm := pow_lt_16 (m := m) (by omega)
      have hyes := relN_yes (P := fun _ _ => false) (Q := peopleP cs) hkk hmm
      have hno := relN_no (P := fun _ _ => false) (Q := peopleP cs) (n := cs.length) (k := k) (m := m)
      obtain ⟨F, hFF⟩ : ∃ F, relN (orP (fun _ _ => false) (peopleP cs) k m) cs.length = F := ⟨_, rfl⟩
      rw [hFF] at hyes hno hlt ⊢
      repeat' (first | refine GO ?_ | (refine GOE ?_; (first | rintro _ _ ⟨rfl, rfl⟩ | rintro _ _ ⟨g, rfl, rfl⟩ | rintro _ _ ⟨A', c', rfl, rfl⟩)) | (refine GO2 ?_ ?_ <;> (refine Zs ?_; intro h; try exact Zx)) | fail)
      all_goals
        refine At_rounds (m + 1) (by omega) (by omega) Ze (fun w hw => ?_)
        first
          | (rw [← hyes (by rw [hq, decide_eq_true (show cs[k].who = cs[m].who by assumption), decide_eq_true (show k < m by omega)]; rfl)]; exact hw.sub (by first | ((repeat (first | with_reducible exact List.nil_sublist _ | with_reducible exact List.Sublist.refl _ | with_reducible apply List.Sublist.cons_cons | with_reducible apply List.Sublist.cons)); done) | (repeat (first | exact List.nil_sublist _ | exact List.Sublist.refl _ | apply List.Sublist.cons_cons | apply List.Sublist.cons))))
          | (rw [← hno (by rw [hq, decide_eq_false (show ¬ cs[k].who = cs[m].who by assumption)]; rfl)]; exact hw.sub (by first | ((repeat (first | with_reducible exact List.nil_sublist _ | with_reducible exact List.Sublist.refl _ | with_reducible apply List.Sublist.cons_cons | with_reducible apply List.Sublist.cons)); done) | (repeat (first | exact List.nil_sublist _ | exact List.Sublist.refl _ | apply List.Sublist.cons_cons | apply List.Sublist.cons))))
          | (rw [← hno (by rw [hq, decide_eq_false (show ¬ k < m by omega)]; simp)]; exact hw.sub (by first | ((repeat (first | with_reducible exact List.nil_sublist _ | with_reducible exact List.Sublist.refl _ | with_reducible apply List.Sublist.cons_cons | with_reducible apply List.Sublist.cons)); done) | (repeat (first | exact List.nil_sublist _ | exact List.Sublist.refl _ | apply List.Sublist.cons_cons | apply List.Sublist.cons))))
    · obtain rfl : m = cs.length := by omega
      repeat' (first | refine GO ?_ | (refine GOE ?_; (first | rintro _ _ ⟨rfl, rfl⟩ | rintro _ _ ⟨g, rfl, rfl⟩ | rintro _ _ ⟨A', c', rfl, rfl⟩)) | (refine GO2 ?_ ?_ <;> (refine Zs ?_; intro h; try exact Zx)) | fail)
      refine At_rounds (k + 1) (by omega) (by omega) Ze (fun w hw => ?_)
      rw [← relN_next]
      exact hw.sub (by first | ((repeat (first | with_reducible exact List.nil_sublist _ | with_reducible exact List.Sublist.refl _ | with_reducible apply List.Sublist.cons_cons | with_reducible apply List.Sublist.cons)); done) | (repeat (first | exact List.nil_sublist _ | exact List.Sublist.refl _ | apply List.Sublist.cons_cons | apply List.Sublist.cons)))
  · obtain rfl : k = cs.length := by omega
    repeat' (first | refine GO ?_ | (refine GOE ?_; (first | rintro _ _ ⟨rfl, rfl⟩ | rintro _ _ ⟨g, rfl, rfl⟩ | rintro _ _ ⟨A', c', rfl, rfl⟩)) | (refine GO2 ?_ ?_ <;> (refine Zs ?_; intro h; try exact Zx)) | fail)
    ((with_reducible apply At_retM Tryz.results44); (repeat (first | exact ResIs.nil | (apply ResIs.tmp; exact rfl) | (apply ResIs.cell; exact rfl; exact Lds.auto))); intro w' hw)
    exact ⟨by rw [← relPeople_done, ← relN_done]; rfl, hw.below0 rfl⟩
end
end Go.Proofs.YtjdckepbihcgfaaGreatDoor
